/-
  The sizes and zeros of this program's types, and the conversions among its kinds of numbers, by the kernel. No conditions.
-/
import Derived.Test.YtalcgmhdgegebaaDoorOwn
namespace Go.Proofs.YtalcgmhdgegebaaDoor
open Go Go.RowKit
set_option maxRecDepth 100000
set_option linter.unusedVariables false
set_option linter.unusedSimpArgs false

instance : One1 Tryd.prog 1 := ⟨by kernel_rfl, by kernel_rfl⟩
instance : One1 Tryd.prog 2 := ⟨by kernel_rfl, by kernel_rfl⟩
instance : ZeroOf Tryd.prog 2 [.int .i64 0] := ⟨by kernel_rfl⟩
instance : One1 Tryd.prog 3 := ⟨by kernel_rfl, by kernel_rfl⟩
instance : ZeroOf Tryd.prog 3 [.int .i64 0] := ⟨by kernel_rfl⟩
instance : One1 Tryd.prog 4 := ⟨by kernel_rfl, by kernel_rfl⟩
instance : ZeroOf Tryd.prog 4 [.bool false] := ⟨by kernel_rfl⟩
instance : One1 Tryd.prog 5 := ⟨by kernel_rfl, by kernel_rfl⟩
instance : ZeroOf Tryd.prog 5 [v8 0#8] := ⟨by kernel_rfl⟩
instance : Many Tryd.prog 7 4 := ⟨by kernel_rfl, by kernel_rfl⟩
instance : ZeroOf Tryd.prog 7 ([.int .i64 0, .int .i64 0, .bool false, v8 0#8]) := ⟨by kernel_rfl⟩
instance : One1 Tryd.prog 9 := ⟨by kernel_rfl, by kernel_rfl⟩
instance : ZeroOf Tryd.prog 9 [.string ⟨#[]⟩] := ⟨by kernel_rfl⟩
instance : One1 Tryd.prog 12 := ⟨by kernel_rfl, by kernel_rfl⟩
instance : ZeroOf Tryd.prog 12 [v64 0#64] := ⟨by kernel_rfl⟩
instance : Many Tryd.prog 13 2 := ⟨by kernel_rfl, by kernel_rfl⟩
instance : ZeroOf Tryd.prog 13 ([.string ⟨#[]⟩, v64 0#64]) := ⟨by kernel_rfl⟩
instance : Many Tryd.prog 18 1 := ⟨by kernel_rfl, by kernel_rfl⟩
instance : ZeroOf Tryd.prog 18 ([.pointer none]) := ⟨by kernel_rfl⟩
instance : One1 Tryd.prog 20 := ⟨by kernel_rfl, by kernel_rfl⟩
instance : ZeroOf Tryd.prog 20 [.nilIface] := ⟨by kernel_rfl⟩
instance : One1 Tryd.prog 21 := ⟨by kernel_rfl, by kernel_rfl⟩
instance : ZeroOf Tryd.prog 21 [.int .i32 0] := ⟨by kernel_rfl⟩
instance : Many Tryd.prog 22 16 := ⟨by kernel_rfl, by kernel_rfl⟩
instance : ZeroOf Tryd.prog 22 ((zer (n := 8) 16).map v8) := ⟨by kernel_rfl⟩
instance : One1 Tryd.prog 23 := ⟨by kernel_rfl, by kernel_rfl⟩
instance : ZeroOf Tryd.prog 23 [.pointer none] := ⟨by kernel_rfl⟩
instance : One1 Tryd.prog 24 := ⟨by kernel_rfl, by kernel_rfl⟩
instance : One1 Tryd.prog 25 := ⟨by kernel_rfl, by kernel_rfl⟩
instance : One1 Tryd.prog 26 := ⟨by kernel_rfl, by kernel_rfl⟩
instance : One1 Tryd.prog 27 := ⟨by kernel_rfl, by kernel_rfl⟩
instance : Many Tryd.prog 28 34 := ⟨by kernel_rfl, by kernel_rfl⟩
instance : ZeroOf Tryd.prog 28 ((zer (n := 8) 34).map v8) := ⟨by kernel_rfl⟩
instance : Many Tryd.prog 29 34 := ⟨by kernel_rfl, by kernel_rfl⟩
instance : ZeroOf Tryd.prog 29 ((zer (n := 8) 34).map v8) := ⟨by kernel_rfl⟩
instance : One1 Tryd.prog 30 := ⟨by kernel_rfl, by kernel_rfl⟩
instance : Many Tryd.prog 31 256 := ⟨by kernel_rfl, by kernel_rfl⟩
instance : ZeroOf Tryd.prog 31 ((zer (n := 8) 256).map v8) := ⟨by kernel_rfl⟩
instance : Many Tryd.prog 32 512 := ⟨by kernel_rfl, by kernel_rfl⟩
instance : ZeroOf Tryd.prog 32 ((zer (n := 8) 512).map v8) := ⟨by kernel_rfl⟩
instance : Many Tryd.prog 33 512 := ⟨by kernel_rfl, by kernel_rfl⟩
instance : ZeroOf Tryd.prog 33 ((zer (n := 8) 512).map v8) := ⟨by kernel_rfl⟩
instance : One1 Tryd.prog 34 := ⟨by kernel_rfl, by kernel_rfl⟩
instance : One1 Tryd.prog 35 := ⟨by kernel_rfl, by kernel_rfl⟩
instance : One1 Tryd.prog 36 := ⟨by kernel_rfl, by kernel_rfl⟩
instance : One1 Tryd.prog 37 := ⟨by kernel_rfl, by kernel_rfl⟩
instance : One1 Tryd.prog 38 := ⟨by kernel_rfl, by kernel_rfl⟩
instance : ZeroOf Tryd.prog 38 [.slice none 0 0] := ⟨by kernel_rfl⟩
instance : One1 Tryd.prog 39 := ⟨by kernel_rfl, by kernel_rfl⟩
instance : One1 Tryd.prog 40 := ⟨by kernel_rfl, by kernel_rfl⟩
instance : One1 Tryd.prog 41 := ⟨by kernel_rfl, by kernel_rfl⟩
instance : One1 Tryd.prog 42 := ⟨by kernel_rfl, by kernel_rfl⟩
instance : One1 Tryd.prog 43 := ⟨by kernel_rfl, by kernel_rfl⟩
instance : One1 Tryd.prog 44 := ⟨by kernel_rfl, by kernel_rfl⟩
instance : ZeroOf Tryd.prog 44 [v64 0#64] := ⟨by kernel_rfl⟩
instance : Many Tryd.prog 45 8 := ⟨by kernel_rfl, by kernel_rfl⟩
instance : ZeroOf Tryd.prog 45 ((zer (n := 64) 8).map v64) := ⟨by kernel_rfl⟩
instance : Many Tryd.prog 46 128 := ⟨by kernel_rfl, by kernel_rfl⟩
instance : ZeroOf Tryd.prog 46 ((zer (n := 8) 128).map v8) := ⟨by kernel_rfl⟩
instance : Many Tryd.prog 47 139 := ⟨by kernel_rfl, by kernel_rfl⟩
instance : ZeroOf Tryd.prog 47 (((zer (n := 64) 8).map v64) ++ ((zer (n := 8) 128).map v8) ++ [v64 0#64, v64 0#64, .bool false]) := ⟨by kernel_rfl⟩
instance : Many Tryd.prog 48 139 := ⟨by kernel_rfl, by kernel_rfl⟩
instance : ZeroOf Tryd.prog 48 (((zer (n := 64) 8).map v64) ++ ((zer (n := 8) 128).map v8) ++ [v64 0#64, v64 0#64, .bool false]) := ⟨by kernel_rfl⟩
instance : One1 Tryd.prog 49 := ⟨by kernel_rfl, by kernel_rfl⟩
instance : Many Tryd.prog 50 2 := ⟨by kernel_rfl, by kernel_rfl⟩
instance : ZeroOf Tryd.prog 50 ([v64 0#64, v64 0#64]) := ⟨by kernel_rfl⟩
instance : Many Tryd.prog 51 2 := ⟨by kernel_rfl, by kernel_rfl⟩
instance : ZeroOf Tryd.prog 51 ([v64 0#64, v64 0#64]) := ⟨by kernel_rfl⟩
instance : One1 Tryd.prog 52 := ⟨by kernel_rfl, by kernel_rfl⟩
instance : One1 Tryd.prog 53 := ⟨by kernel_rfl, by kernel_rfl⟩
instance : ZeroOf Tryd.prog 53 [.slice none 0 0] := ⟨by kernel_rfl⟩
instance : One1 Tryd.prog 54 := ⟨by kernel_rfl, by kernel_rfl⟩
instance : One1 Tryd.prog 55 := ⟨by kernel_rfl, by kernel_rfl⟩
instance : ZeroOf Tryd.prog 55 [.int .i64 0] := ⟨by kernel_rfl⟩
instance : One1 Tryd.prog 57 := ⟨by kernel_rfl, by kernel_rfl⟩
instance : One1 Tryd.prog 58 := ⟨by kernel_rfl, by kernel_rfl⟩
instance : ZeroOf Tryd.prog 58 [.pointer none] := ⟨by kernel_rfl⟩
instance : One1 Tryd.prog 60 := ⟨by kernel_rfl, by kernel_rfl⟩
instance : One1 Tryd.prog 62 := ⟨by kernel_rfl, by kernel_rfl⟩
instance : One1 Tryd.prog 63 := ⟨by kernel_rfl, by kernel_rfl⟩
instance : One1 Tryd.prog 64 := ⟨by kernel_rfl, by kernel_rfl⟩
instance : ZeroOf Tryd.prog 64 [.slice none 0 0] := ⟨by kernel_rfl⟩
instance : Many Tryd.prog 65 3 := ⟨by kernel_rfl, by kernel_rfl⟩
instance : ZeroOf Tryd.prog 65 ([.int .i64 0, .slice none 0 0, .slice none 0 0]) := ⟨by kernel_rfl⟩
instance : Many Tryd.prog 66 3 := ⟨by kernel_rfl, by kernel_rfl⟩
instance : ZeroOf Tryd.prog 66 ([.int .i64 0, .slice none 0 0, .slice none 0 0]) := ⟨by kernel_rfl⟩
instance : One1 Tryd.prog 67 := ⟨by kernel_rfl, by kernel_rfl⟩
instance : One1 Tryd.prog 68 := ⟨by kernel_rfl, by kernel_rfl⟩
instance : One1 Tryd.prog 69 := ⟨by kernel_rfl, by kernel_rfl⟩
instance : One1 Tryd.prog 70 := ⟨by kernel_rfl, by kernel_rfl⟩
instance : One1 Tryd.prog 71 := ⟨by kernel_rfl, by kernel_rfl⟩
instance : One1 Tryd.prog 72 := ⟨by kernel_rfl, by kernel_rfl⟩
instance : One1 Tryd.prog 73 := ⟨by kernel_rfl, by kernel_rfl⟩
instance : ZeroOf Tryd.prog 73 [v64 0#64] := ⟨by kernel_rfl⟩
instance : One1 Tryd.prog 74 := ⟨by kernel_rfl, by kernel_rfl⟩
instance : One1 Tryd.prog 75 := ⟨by kernel_rfl, by kernel_rfl⟩
instance : ZeroOf Tryd.prog 75 [.pointer none] := ⟨by kernel_rfl⟩
instance : One1 Tryd.prog 76 := ⟨by kernel_rfl, by kernel_rfl⟩
instance : One1 Tryd.prog 77 := ⟨by kernel_rfl, by kernel_rfl⟩
instance : ZeroOf Tryd.prog 77 [v32 0#32] := ⟨by kernel_rfl⟩
instance : One1 Tryd.prog 78 := ⟨by kernel_rfl, by kernel_rfl⟩
instance : Many Tryd.prog 79 256 := ⟨by kernel_rfl, by kernel_rfl⟩
instance : ZeroOf Tryd.prog 79 ((zer (n := 32) 256).map v32) := ⟨by kernel_rfl⟩
instance : Many Tryd.prog 80 1024 := ⟨by kernel_rfl, by kernel_rfl⟩
instance : ZeroOf Tryd.prog 80 ((zer (n := 32) 1024).map v32) := ⟨by kernel_rfl⟩
instance : Many Tryd.prog 81 2049 := ⟨by kernel_rfl, by kernel_rfl⟩
instance : ZeroOf Tryd.prog 81 ([.pointer none] ++ ((zer (n := 32) 2048).map v32)) := ⟨by kernel_rfl⟩
instance : Many Tryd.prog 82 2049 := ⟨by kernel_rfl, by kernel_rfl⟩
instance : ZeroOf Tryd.prog 82 ([.pointer none] ++ ((zer (n := 32) 2048).map v32)) := ⟨by kernel_rfl⟩
instance : One1 Tryd.prog 83 := ⟨by kernel_rfl, by kernel_rfl⟩
instance : Many Tryd.prog 84 4 := ⟨by kernel_rfl, by kernel_rfl⟩
instance : ZeroOf Tryd.prog 84 ((zer (n := 8) 4).map v8) := ⟨by kernel_rfl⟩
instance : One1 Tryd.prog 85 := ⟨by kernel_rfl, by kernel_rfl⟩
instance : One1 Tryd.prog 86 := ⟨by kernel_rfl, by kernel_rfl⟩
instance : One1 Tryd.prog 87 := ⟨by kernel_rfl, by kernel_rfl⟩
instance : One1 Tryd.prog 88 := ⟨by kernel_rfl, by kernel_rfl⟩
instance : One1 Tryd.prog 89 := ⟨by kernel_rfl, by kernel_rfl⟩
instance : Many Tryd.prog 90 16 := ⟨by kernel_rfl, by kernel_rfl⟩
instance : ZeroOf Tryd.prog 90 ((zer (n := 64) 16).map v64) := ⟨by kernel_rfl⟩
instance : One1 Tryd.prog 91 := ⟨by kernel_rfl, by kernel_rfl⟩
instance : Many Tryd.prog 92 160 := ⟨by kernel_rfl, by kernel_rfl⟩
instance : ZeroOf Tryd.prog 92 ((zer (n := 8) 160).map v8) := ⟨by kernel_rfl⟩
instance : One1 Tryd.prog 93 := ⟨by kernel_rfl, by kernel_rfl⟩
instance : One1 Tryd.prog 94 := ⟨by kernel_rfl, by kernel_rfl⟩
instance : ZeroOf Tryd.prog 94 [.pointer none] := ⟨by kernel_rfl⟩
instance : One1 Tryd.prog 95 := ⟨by kernel_rfl, by kernel_rfl⟩
instance : One1 Tryd.prog 96 := ⟨by kernel_rfl, by kernel_rfl⟩
instance : Many Tryd.prog 97 16 := ⟨by kernel_rfl, by kernel_rfl⟩
instance : ZeroOf Tryd.prog 97 ([.int .i64 0, .int .i64 0, .int .i64 0, .int .i64 0, .int .i64 0, .int .i64 0, .int .i64 0, .int .i64 0, .int .i64 0, .int .i64 0, .int .i64 0, .int .i64 0, .int .i64 0, .int .i64 0, .int .i64 0, .int .i64 0]) := ⟨by kernel_rfl⟩
instance : One1 Tryd.prog 98 := ⟨by kernel_rfl, by kernel_rfl⟩
instance : One1 Tryd.prog 99 := ⟨by kernel_rfl, by kernel_rfl⟩
instance : Many Tryd.prog 100 12 := ⟨by kernel_rfl, by kernel_rfl⟩
instance : ZeroOf Tryd.prog 100 (((zer (n := 64) 10).map v64) ++ [.slice none 0 0, .int .i64 0]) := ⟨by kernel_rfl⟩
instance : Many Tryd.prog 101 12 := ⟨by kernel_rfl, by kernel_rfl⟩
instance : ZeroOf Tryd.prog 101 (((zer (n := 64) 10).map v64) ++ [.slice none 0 0, .int .i64 0]) := ⟨by kernel_rfl⟩
instance : One1 Tryd.prog 102 := ⟨by kernel_rfl, by kernel_rfl⟩
instance : One1 Tryd.prog 103 := ⟨by kernel_rfl, by kernel_rfl⟩
instance : Many Tryd.prog 104 8 := ⟨by kernel_rfl, by kernel_rfl⟩
instance : ZeroOf Tryd.prog 104 ((zer (n := 8) 8).map v8) := ⟨by kernel_rfl⟩
instance : One1 Tryd.prog 105 := ⟨by kernel_rfl, by kernel_rfl⟩
instance : One1 Tryd.prog 106 := ⟨by kernel_rfl, by kernel_rfl⟩
instance : One1 Tryd.prog 107 := ⟨by kernel_rfl, by kernel_rfl⟩
instance : Many Tryd.prog 108 255 := ⟨by kernel_rfl, by kernel_rfl⟩
instance : ZeroOf Tryd.prog 108 ((zer (n := 8) 255).map v8) := ⟨by kernel_rfl⟩
instance : Many Tryd.prog 109 512 := ⟨by kernel_rfl, by kernel_rfl⟩
instance : ZeroOf Tryd.prog 109 ((zer (n := 8) 512).map v8) := ⟨by kernel_rfl⟩
instance : Many Tryd.prog 110 512 := ⟨by kernel_rfl, by kernel_rfl⟩
instance : ZeroOf Tryd.prog 110 ((zer (n := 8) 512).map v8) := ⟨by kernel_rfl⟩
instance : One1 Tryd.prog 111 := ⟨by kernel_rfl, by kernel_rfl⟩
instance : One1 Tryd.prog 112 := ⟨by kernel_rfl, by kernel_rfl⟩
instance : One1 Tryd.prog 113 := ⟨by kernel_rfl, by kernel_rfl⟩
instance : One1 Tryd.prog 114 := ⟨by kernel_rfl, by kernel_rfl⟩
instance : One1 Tryd.prog 115 := ⟨by kernel_rfl, by kernel_rfl⟩
instance : One1 Tryd.prog 116 := ⟨by kernel_rfl, by kernel_rfl⟩
instance : One1 Tryd.prog 117 := ⟨by kernel_rfl, by kernel_rfl⟩
instance : One1 Tryd.prog 118 := ⟨by kernel_rfl, by kernel_rfl⟩
instance : One1 Tryd.prog 119 := ⟨by kernel_rfl, by kernel_rfl⟩
instance : One1 Tryd.prog 120 := ⟨by kernel_rfl, by kernel_rfl⟩
instance : One1 Tryd.prog 121 := ⟨by kernel_rfl, by kernel_rfl⟩
instance : One1 Tryd.prog 123 := ⟨by kernel_rfl, by kernel_rfl⟩
instance : One1 Tryd.prog 124 := ⟨by kernel_rfl, by kernel_rfl⟩
instance : Many Tryd.prog 125 4 := ⟨by kernel_rfl, by kernel_rfl⟩
instance : ZeroOf Tryd.prog 125 ([.pointer none, .pointer none, .pointer none, .string ⟨#[]⟩]) := ⟨by kernel_rfl⟩
instance : Many Tryd.prog 128 0 := ⟨by kernel_rfl, by kernel_rfl⟩
instance : ZeroOf Tryd.prog 128 ([]) := ⟨by kernel_rfl⟩
instance : One1 Tryd.prog 130 := ⟨by kernel_rfl, by kernel_rfl⟩
instance : One1 Tryd.prog 133 := ⟨by kernel_rfl, by kernel_rfl⟩
instance : One1 Tryd.prog 134 := ⟨by kernel_rfl, by kernel_rfl⟩
instance : ZeroOf Tryd.prog 134 [.pointer none] := ⟨by kernel_rfl⟩
instance : Many Tryd.prog 137 11 := ⟨by kernel_rfl, by kernel_rfl⟩
instance : ZeroOf Tryd.prog 137 ([v64 0#64, v64 0#64, v32 0#32] ++ ((zer (n := 8) 4).map v8) ++ [.nilFunc, .pointer none, .int .i32 0, .int .i32 0]) := ⟨by kernel_rfl⟩
instance : One1 Tryd.prog 139 := ⟨by kernel_rfl, by kernel_rfl⟩
@[go_sem] theorem cv2_5 (n : Int) (w : World) : (convert 2 5 (.int .i64 n)).run Tryd.prog w = .ok (v8 (BitVec.ofInt 8 n)) w := conv_int8 n _ _ _ _ w rfl rfl
@[go_sem] theorem cv2_12 (n : Int) (w : World) : (convert 2 12 (.int .i64 n)).run Tryd.prog w = .ok (v64 (BitVec.ofInt 64 n)) w := conv_int64 n _ _ _ _ w rfl rfl
@[go_sem] theorem cv2_44 (n : Int) (w : World) : (convert 2 44 (.int .i64 n)).run Tryd.prog w = .ok (v64 (BitVec.ofInt 64 n)) w := conv_int64 n _ _ _ _ w rfl rfl
@[go_sem] theorem cv2_73 (n : Int) (w : World) : (convert 2 73 (.int .i64 n)).run Tryd.prog w = .ok (v64 (BitVec.ofInt 64 n)) w := conv_int64 n _ _ _ _ w rfl rfl
@[go_sem] theorem cv2_77 (n : Int) (w : World) : (convert 2 77 (.int .i64 n)).run Tryd.prog w = .ok (v32 (BitVec.ofInt 32 n)) w := conv_int32 n _ _ _ _ w rfl rfl
@[go_sem] theorem cv3_5 (n : Int) (w : World) : (convert 3 5 (.int .i64 n)).run Tryd.prog w = .ok (v8 (BitVec.ofInt 8 n)) w := conv_int8 n _ _ _ _ w rfl rfl
@[go_sem] theorem cv3_12 (n : Int) (w : World) : (convert 3 12 (.int .i64 n)).run Tryd.prog w = .ok (v64 (BitVec.ofInt 64 n)) w := conv_int64 n _ _ _ _ w rfl rfl
@[go_sem] theorem cv3_44 (n : Int) (w : World) : (convert 3 44 (.int .i64 n)).run Tryd.prog w = .ok (v64 (BitVec.ofInt 64 n)) w := conv_int64 n _ _ _ _ w rfl rfl
@[go_sem] theorem cv3_73 (n : Int) (w : World) : (convert 3 73 (.int .i64 n)).run Tryd.prog w = .ok (v64 (BitVec.ofInt 64 n)) w := conv_int64 n _ _ _ _ w rfl rfl
@[go_sem] theorem cv3_77 (n : Int) (w : World) : (convert 3 77 (.int .i64 n)).run Tryd.prog w = .ok (v32 (BitVec.ofInt 32 n)) w := conv_int32 n _ _ _ _ w rfl rfl
@[go_sem] theorem cv5_2 (x : BitVec 8) (w : World) : (convert 5 2 (v8 x)).run Tryd.prog w = .ok (.int .i64 x.toNat) w := conv8_i64 x _ _ _ w rfl rfl
@[go_sem] theorem cv5_3 (x : BitVec 8) (w : World) : (convert 5 3 (v8 x)).run Tryd.prog w = .ok (.int .i64 x.toNat) w := conv8_i64 x _ _ _ w rfl rfl
@[go_sem] theorem cv5_12 (x : BitVec 8) (w : World) : (convert 5 12 (v8 x)).run Tryd.prog w = .ok (v64 (x.setWidth 64)) w := conv8_64 x _ _ _ w rfl rfl
@[go_sem] theorem cv5_44 (x : BitVec 8) (w : World) : (convert 5 44 (v8 x)).run Tryd.prog w = .ok (v64 (x.setWidth 64)) w := conv8_64 x _ _ _ w rfl rfl
@[go_sem] theorem cv5_55 (x : BitVec 8) (w : World) : (convert 5 55 (v8 x)).run Tryd.prog w = .ok (.int .i64 x.toNat) w := conv8_i64 x _ _ _ w rfl rfl
@[go_sem] theorem cv5_73 (x : BitVec 8) (w : World) : (convert 5 73 (v8 x)).run Tryd.prog w = .ok (v64 (x.setWidth 64)) w := conv8_64 x _ _ _ w rfl rfl
@[go_sem] theorem cv5_77 (x : BitVec 8) (w : World) : (convert 5 77 (v8 x)).run Tryd.prog w = .ok (v32 (x.setWidth 32)) w := conv8_32 x _ _ _ w rfl rfl
@[go_sem] theorem cv12_5 (x : BitVec 64) (w : World) : (convert 12 5 (v64 x)).run Tryd.prog w = .ok (v8 (x.setWidth 8)) w := conv64_8 x _ _ _ w rfl rfl
@[go_sem] theorem cv12_44 (x : BitVec 64) (w : World) : (convert 12 44 (v64 x)).run Tryd.prog w = .ok (v64 x) w := conv64_64 x _ _ _ w rfl rfl
@[go_sem] theorem cv12_73 (x : BitVec 64) (w : World) : (convert 12 73 (v64 x)).run Tryd.prog w = .ok (v64 x) w := conv64_64 x _ _ _ w rfl rfl
@[go_sem] theorem cv12_77 (x : BitVec 64) (w : World) : (convert 12 77 (v64 x)).run Tryd.prog w = .ok (v32 (x.setWidth 32)) w := conv64_32 x _ _ _ w rfl rfl
@[go_sem] theorem cv44_5 (x : BitVec 64) (w : World) : (convert 44 5 (v64 x)).run Tryd.prog w = .ok (v8 (x.setWidth 8)) w := conv64_8 x _ _ _ w rfl rfl
@[go_sem] theorem cv44_12 (x : BitVec 64) (w : World) : (convert 44 12 (v64 x)).run Tryd.prog w = .ok (v64 x) w := conv64_64 x _ _ _ w rfl rfl
@[go_sem] theorem cv44_73 (x : BitVec 64) (w : World) : (convert 44 73 (v64 x)).run Tryd.prog w = .ok (v64 x) w := conv64_64 x _ _ _ w rfl rfl
@[go_sem] theorem cv44_77 (x : BitVec 64) (w : World) : (convert 44 77 (v64 x)).run Tryd.prog w = .ok (v32 (x.setWidth 32)) w := conv64_32 x _ _ _ w rfl rfl
@[go_sem] theorem cv55_5 (n : Int) (w : World) : (convert 55 5 (.int .i64 n)).run Tryd.prog w = .ok (v8 (BitVec.ofInt 8 n)) w := conv_int8 n _ _ _ _ w rfl rfl
@[go_sem] theorem cv55_12 (n : Int) (w : World) : (convert 55 12 (.int .i64 n)).run Tryd.prog w = .ok (v64 (BitVec.ofInt 64 n)) w := conv_int64 n _ _ _ _ w rfl rfl
@[go_sem] theorem cv55_44 (n : Int) (w : World) : (convert 55 44 (.int .i64 n)).run Tryd.prog w = .ok (v64 (BitVec.ofInt 64 n)) w := conv_int64 n _ _ _ _ w rfl rfl
@[go_sem] theorem cv55_73 (n : Int) (w : World) : (convert 55 73 (.int .i64 n)).run Tryd.prog w = .ok (v64 (BitVec.ofInt 64 n)) w := conv_int64 n _ _ _ _ w rfl rfl
@[go_sem] theorem cv55_77 (n : Int) (w : World) : (convert 55 77 (.int .i64 n)).run Tryd.prog w = .ok (v32 (BitVec.ofInt 32 n)) w := conv_int32 n _ _ _ _ w rfl rfl
@[go_sem] theorem cv73_5 (x : BitVec 64) (w : World) : (convert 73 5 (v64 x)).run Tryd.prog w = .ok (v8 (x.setWidth 8)) w := conv64_8 x _ _ _ w rfl rfl
@[go_sem] theorem cv73_12 (x : BitVec 64) (w : World) : (convert 73 12 (v64 x)).run Tryd.prog w = .ok (v64 x) w := conv64_64 x _ _ _ w rfl rfl
@[go_sem] theorem cv73_44 (x : BitVec 64) (w : World) : (convert 73 44 (v64 x)).run Tryd.prog w = .ok (v64 x) w := conv64_64 x _ _ _ w rfl rfl
@[go_sem] theorem cv73_77 (x : BitVec 64) (w : World) : (convert 73 77 (v64 x)).run Tryd.prog w = .ok (v32 (x.setWidth 32)) w := conv64_32 x _ _ _ w rfl rfl
@[go_sem] theorem cv77_2 (x : BitVec 32) (w : World) : (convert 77 2 (v32 x)).run Tryd.prog w = .ok (.int .i64 x.toNat) w := conv32_i64 x _ _ _ w rfl rfl
@[go_sem] theorem cv77_3 (x : BitVec 32) (w : World) : (convert 77 3 (v32 x)).run Tryd.prog w = .ok (.int .i64 x.toNat) w := conv32_i64 x _ _ _ w rfl rfl
@[go_sem] theorem cv77_5 (x : BitVec 32) (w : World) : (convert 77 5 (v32 x)).run Tryd.prog w = .ok (v8 (x.setWidth 8)) w := conv32_8 x _ _ _ w rfl rfl
@[go_sem] theorem cv77_12 (x : BitVec 32) (w : World) : (convert 77 12 (v32 x)).run Tryd.prog w = .ok (v64 (x.setWidth 64)) w := conv32_64 x _ _ _ w rfl rfl
@[go_sem] theorem cv77_44 (x : BitVec 32) (w : World) : (convert 77 44 (v32 x)).run Tryd.prog w = .ok (v64 (x.setWidth 64)) w := conv32_64 x _ _ _ w rfl rfl
@[go_sem] theorem cv77_55 (x : BitVec 32) (w : World) : (convert 77 55 (v32 x)).run Tryd.prog w = .ok (.int .i64 x.toNat) w := conv32_i64 x _ _ _ w rfl rfl
@[go_sem] theorem cv77_73 (x : BitVec 32) (w : World) : (convert 77 73 (v32 x)).run Tryd.prog w = .ok (v64 (x.setWidth 64)) w := conv32_64 x _ _ _ w rfl rfl

end Go.Proofs.YtalcgmhdgegebaaDoor
