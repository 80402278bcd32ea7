/-
  The sizes and zeros of this program's types, and the conversions among its kinds of numbers, by the kernel. No conditions.
-/
import Derived.Test.YtmclklhnbmkheaaDoorOwn
namespace Go.Proofs.YtmclklhnbmkheaaDoor
open Go Go.RowKit
set_option maxRecDepth 100000
set_option linter.unusedVariables false
set_option linter.unusedSimpArgs false

instance : One1 Tryd.prog 1 := ⟨by kernel_rfl, by kernel_rfl⟩
instance : One1 Tryd.prog 2 := ⟨by kernel_rfl, by kernel_rfl⟩
instance : ZeroOf Tryd.prog 2 [.int .i64 0] := ⟨by kernel_rfl⟩
instance : One1 Tryd.prog 3 := ⟨by kernel_rfl, by kernel_rfl⟩
instance : ZeroOf Tryd.prog 3 [.int .i64 0] := ⟨by kernel_rfl⟩
instance : One1 Tryd.prog 4 := ⟨by kernel_rfl, by kernel_rfl⟩
instance : ZeroOf Tryd.prog 4 [.bool false] := ⟨by kernel_rfl⟩
instance : One1 Tryd.prog 5 := ⟨by kernel_rfl, by kernel_rfl⟩
instance : ZeroOf Tryd.prog 5 [v8 0#8] := ⟨by kernel_rfl⟩
instance : Many Tryd.prog 7 4 := ⟨by kernel_rfl, by kernel_rfl⟩
instance : ZeroOf Tryd.prog 7 ([.int .i64 0, .int .i64 0, .bool false, v8 0#8]) := ⟨by kernel_rfl⟩
instance : One1 Tryd.prog 9 := ⟨by kernel_rfl, by kernel_rfl⟩
instance : ZeroOf Tryd.prog 9 [.string ⟨#[]⟩] := ⟨by kernel_rfl⟩
instance : One1 Tryd.prog 12 := ⟨by kernel_rfl, by kernel_rfl⟩
instance : ZeroOf Tryd.prog 12 [v64 0#64] := ⟨by kernel_rfl⟩
instance : Many Tryd.prog 13 2 := ⟨by kernel_rfl, by kernel_rfl⟩
instance : ZeroOf Tryd.prog 13 ([.string ⟨#[]⟩, v64 0#64]) := ⟨by kernel_rfl⟩
instance : Many Tryd.prog 18 1 := ⟨by kernel_rfl, by kernel_rfl⟩
instance : ZeroOf Tryd.prog 18 ([.pointer none]) := ⟨by kernel_rfl⟩
instance : One1 Tryd.prog 20 := ⟨by kernel_rfl, by kernel_rfl⟩
instance : ZeroOf Tryd.prog 20 [.nilIface] := ⟨by kernel_rfl⟩
instance : One1 Tryd.prog 21 := ⟨by kernel_rfl, by kernel_rfl⟩
instance : ZeroOf Tryd.prog 21 [.int .i32 0] := ⟨by kernel_rfl⟩
instance : One1 Tryd.prog 22 := ⟨by kernel_rfl, by kernel_rfl⟩
instance : ZeroOf Tryd.prog 22 [.slice none 0 0] := ⟨by kernel_rfl⟩
instance : One1 Tryd.prog 23 := ⟨by kernel_rfl, by kernel_rfl⟩
instance : ZeroOf Tryd.prog 23 [.slice none 0 0] := ⟨by kernel_rfl⟩
instance : Many Tryd.prog 24 3 := ⟨by kernel_rfl, by kernel_rfl⟩
instance : ZeroOf Tryd.prog 24 ([.int .i64 0, .slice none 0 0, .slice none 0 0]) := ⟨by kernel_rfl⟩
instance : Many Tryd.prog 25 3 := ⟨by kernel_rfl, by kernel_rfl⟩
instance : ZeroOf Tryd.prog 25 ([.int .i64 0, .slice none 0 0, .slice none 0 0]) := ⟨by kernel_rfl⟩
instance : One1 Tryd.prog 26 := ⟨by kernel_rfl, by kernel_rfl⟩
instance : One1 Tryd.prog 27 := ⟨by kernel_rfl, by kernel_rfl⟩
instance : ZeroOf Tryd.prog 27 [.pointer none] := ⟨by kernel_rfl⟩
instance : One1 Tryd.prog 28 := ⟨by kernel_rfl, by kernel_rfl⟩
instance : ZeroOf Tryd.prog 28 [.int .i64 0] := ⟨by kernel_rfl⟩
instance : One1 Tryd.prog 30 := ⟨by kernel_rfl, by kernel_rfl⟩
instance : One1 Tryd.prog 31 := ⟨by kernel_rfl, by kernel_rfl⟩
instance : One1 Tryd.prog 33 := ⟨by kernel_rfl, by kernel_rfl⟩
instance : One1 Tryd.prog 34 := ⟨by kernel_rfl, by kernel_rfl⟩
instance : One1 Tryd.prog 35 := ⟨by kernel_rfl, by kernel_rfl⟩
instance : One1 Tryd.prog 36 := ⟨by kernel_rfl, by kernel_rfl⟩
instance : One1 Tryd.prog 37 := ⟨by kernel_rfl, by kernel_rfl⟩
instance : ZeroOf Tryd.prog 37 [v64 0#64] := ⟨by kernel_rfl⟩
instance : Many Tryd.prog 38 8 := ⟨by kernel_rfl, by kernel_rfl⟩
instance : ZeroOf Tryd.prog 38 ((zer (n := 64) 8).map v64) := ⟨by kernel_rfl⟩
instance : One1 Tryd.prog 39 := ⟨by kernel_rfl, by kernel_rfl⟩
instance : One1 Tryd.prog 40 := ⟨by kernel_rfl, by kernel_rfl⟩
instance : Many Tryd.prog 41 128 := ⟨by kernel_rfl, by kernel_rfl⟩
instance : ZeroOf Tryd.prog 41 ((zer (n := 8) 128).map v8) := ⟨by kernel_rfl⟩
instance : One1 Tryd.prog 42 := ⟨by kernel_rfl, by kernel_rfl⟩
instance : Many Tryd.prog 43 2 := ⟨by kernel_rfl, by kernel_rfl⟩
instance : ZeroOf Tryd.prog 43 ([v64 0#64, v64 0#64]) := ⟨by kernel_rfl⟩
instance : Many Tryd.prog 44 2 := ⟨by kernel_rfl, by kernel_rfl⟩
instance : ZeroOf Tryd.prog 44 ([v64 0#64, v64 0#64]) := ⟨by kernel_rfl⟩
instance : One1 Tryd.prog 45 := ⟨by kernel_rfl, by kernel_rfl⟩
instance : ZeroOf Tryd.prog 45 [v64 0#64] := ⟨by kernel_rfl⟩
instance : One1 Tryd.prog 46 := ⟨by kernel_rfl, by kernel_rfl⟩
instance : Many Tryd.prog 47 12 := ⟨by kernel_rfl, by kernel_rfl⟩
instance : ZeroOf Tryd.prog 47 (((zer (n := 64) 10).map v64) ++ [.slice none 0 0, .int .i64 0]) := ⟨by kernel_rfl⟩
instance : Many Tryd.prog 48 12 := ⟨by kernel_rfl, by kernel_rfl⟩
instance : ZeroOf Tryd.prog 48 (((zer (n := 64) 10).map v64) ++ [.slice none 0 0, .int .i64 0]) := ⟨by kernel_rfl⟩
instance : One1 Tryd.prog 49 := ⟨by kernel_rfl, by kernel_rfl⟩
instance : Many Tryd.prog 50 8 := ⟨by kernel_rfl, by kernel_rfl⟩
instance : ZeroOf Tryd.prog 50 ((zer (n := 8) 8).map v8) := ⟨by kernel_rfl⟩
instance : One1 Tryd.prog 51 := ⟨by kernel_rfl, by kernel_rfl⟩
instance : One1 Tryd.prog 52 := ⟨by kernel_rfl, by kernel_rfl⟩
instance : Many Tryd.prog 53 16 := ⟨by kernel_rfl, by kernel_rfl⟩
instance : ZeroOf Tryd.prog 53 ((zer (n := 64) 16).map v64) := ⟨by kernel_rfl⟩
instance : One1 Tryd.prog 54 := ⟨by kernel_rfl, by kernel_rfl⟩
instance : Many Tryd.prog 55 16 := ⟨by kernel_rfl, by kernel_rfl⟩
instance : ZeroOf Tryd.prog 55 ((zer (n := 8) 16).map v8) := ⟨by kernel_rfl⟩
instance : Many Tryd.prog 56 160 := ⟨by kernel_rfl, by kernel_rfl⟩
instance : ZeroOf Tryd.prog 56 ((zer (n := 8) 160).map v8) := ⟨by kernel_rfl⟩
instance : One1 Tryd.prog 57 := ⟨by kernel_rfl, by kernel_rfl⟩
instance : One1 Tryd.prog 58 := ⟨by kernel_rfl, by kernel_rfl⟩
instance : ZeroOf Tryd.prog 58 [.pointer none] := ⟨by kernel_rfl⟩
instance : One1 Tryd.prog 59 := ⟨by kernel_rfl, by kernel_rfl⟩
instance : One1 Tryd.prog 60 := ⟨by kernel_rfl, by kernel_rfl⟩
instance : One1 Tryd.prog 61 := ⟨by kernel_rfl, by kernel_rfl⟩
instance : One1 Tryd.prog 62 := ⟨by kernel_rfl, by kernel_rfl⟩
instance : One1 Tryd.prog 63 := ⟨by kernel_rfl, by kernel_rfl⟩
instance : One1 Tryd.prog 65 := ⟨by kernel_rfl, by kernel_rfl⟩
instance : One1 Tryd.prog 66 := ⟨by kernel_rfl, by kernel_rfl⟩
instance : One1 Tryd.prog 67 := ⟨by kernel_rfl, by kernel_rfl⟩
instance : Many Tryd.prog 68 4 := ⟨by kernel_rfl, by kernel_rfl⟩
instance : ZeroOf Tryd.prog 68 ([.pointer none, .pointer none, .pointer none, .string ⟨#[]⟩]) := ⟨by kernel_rfl⟩
instance : Many Tryd.prog 71 0 := ⟨by kernel_rfl, by kernel_rfl⟩
instance : ZeroOf Tryd.prog 71 ([]) := ⟨by kernel_rfl⟩
instance : One1 Tryd.prog 73 := ⟨by kernel_rfl, by kernel_rfl⟩
instance : One1 Tryd.prog 74 := ⟨by kernel_rfl, by kernel_rfl⟩
instance : ZeroOf Tryd.prog 74 [v32 0#32] := ⟨by kernel_rfl⟩
instance : One1 Tryd.prog 77 := ⟨by kernel_rfl, by kernel_rfl⟩
instance : One1 Tryd.prog 78 := ⟨by kernel_rfl, by kernel_rfl⟩
instance : ZeroOf Tryd.prog 78 [.pointer none] := ⟨by kernel_rfl⟩
instance : Many Tryd.prog 81 11 := ⟨by kernel_rfl, by kernel_rfl⟩
instance : ZeroOf Tryd.prog 81 ([v64 0#64, v64 0#64, v32 0#32] ++ ((zer (n := 8) 4).map v8) ++ [.nilFunc, .pointer none, .int .i32 0, .int .i32 0]) := ⟨by kernel_rfl⟩
instance : One1 Tryd.prog 83 := ⟨by kernel_rfl, by kernel_rfl⟩
@[go_sem] theorem cv2_5 (n : Int) (w : World) : (convert 2 5 (.int .i64 n)).run Tryd.prog w = .ok (v8 (BitVec.ofInt 8 n)) w := conv_int8 n _ _ _ _ w rfl rfl
@[go_sem] theorem cv2_12 (n : Int) (w : World) : (convert 2 12 (.int .i64 n)).run Tryd.prog w = .ok (v64 (BitVec.ofInt 64 n)) w := conv_int64 n _ _ _ _ w rfl rfl
@[go_sem] theorem cv2_37 (n : Int) (w : World) : (convert 2 37 (.int .i64 n)).run Tryd.prog w = .ok (v64 (BitVec.ofInt 64 n)) w := conv_int64 n _ _ _ _ w rfl rfl
@[go_sem] theorem cv2_45 (n : Int) (w : World) : (convert 2 45 (.int .i64 n)).run Tryd.prog w = .ok (v64 (BitVec.ofInt 64 n)) w := conv_int64 n _ _ _ _ w rfl rfl
@[go_sem] theorem cv2_74 (n : Int) (w : World) : (convert 2 74 (.int .i64 n)).run Tryd.prog w = .ok (v32 (BitVec.ofInt 32 n)) w := conv_int32 n _ _ _ _ w rfl rfl
@[go_sem] theorem cv3_5 (n : Int) (w : World) : (convert 3 5 (.int .i64 n)).run Tryd.prog w = .ok (v8 (BitVec.ofInt 8 n)) w := conv_int8 n _ _ _ _ w rfl rfl
@[go_sem] theorem cv3_12 (n : Int) (w : World) : (convert 3 12 (.int .i64 n)).run Tryd.prog w = .ok (v64 (BitVec.ofInt 64 n)) w := conv_int64 n _ _ _ _ w rfl rfl
@[go_sem] theorem cv3_37 (n : Int) (w : World) : (convert 3 37 (.int .i64 n)).run Tryd.prog w = .ok (v64 (BitVec.ofInt 64 n)) w := conv_int64 n _ _ _ _ w rfl rfl
@[go_sem] theorem cv3_45 (n : Int) (w : World) : (convert 3 45 (.int .i64 n)).run Tryd.prog w = .ok (v64 (BitVec.ofInt 64 n)) w := conv_int64 n _ _ _ _ w rfl rfl
@[go_sem] theorem cv3_74 (n : Int) (w : World) : (convert 3 74 (.int .i64 n)).run Tryd.prog w = .ok (v32 (BitVec.ofInt 32 n)) w := conv_int32 n _ _ _ _ w rfl rfl
@[go_sem] theorem cv5_2 (x : BitVec 8) (w : World) : (convert 5 2 (v8 x)).run Tryd.prog w = .ok (.int .i64 x.toNat) w := conv8_i64 x _ _ _ w rfl rfl
@[go_sem] theorem cv5_3 (x : BitVec 8) (w : World) : (convert 5 3 (v8 x)).run Tryd.prog w = .ok (.int .i64 x.toNat) w := conv8_i64 x _ _ _ w rfl rfl
@[go_sem] theorem cv5_12 (x : BitVec 8) (w : World) : (convert 5 12 (v8 x)).run Tryd.prog w = .ok (v64 (x.setWidth 64)) w := conv8_64 x _ _ _ w rfl rfl
@[go_sem] theorem cv5_28 (x : BitVec 8) (w : World) : (convert 5 28 (v8 x)).run Tryd.prog w = .ok (.int .i64 x.toNat) w := conv8_i64 x _ _ _ w rfl rfl
@[go_sem] theorem cv5_37 (x : BitVec 8) (w : World) : (convert 5 37 (v8 x)).run Tryd.prog w = .ok (v64 (x.setWidth 64)) w := conv8_64 x _ _ _ w rfl rfl
@[go_sem] theorem cv5_45 (x : BitVec 8) (w : World) : (convert 5 45 (v8 x)).run Tryd.prog w = .ok (v64 (x.setWidth 64)) w := conv8_64 x _ _ _ w rfl rfl
@[go_sem] theorem cv5_74 (x : BitVec 8) (w : World) : (convert 5 74 (v8 x)).run Tryd.prog w = .ok (v32 (x.setWidth 32)) w := conv8_32 x _ _ _ w rfl rfl
@[go_sem] theorem cv12_5 (x : BitVec 64) (w : World) : (convert 12 5 (v64 x)).run Tryd.prog w = .ok (v8 (x.setWidth 8)) w := conv64_8 x _ _ _ w rfl rfl
@[go_sem] theorem cv12_37 (x : BitVec 64) (w : World) : (convert 12 37 (v64 x)).run Tryd.prog w = .ok (v64 x) w := conv64_64 x _ _ _ w rfl rfl
@[go_sem] theorem cv12_45 (x : BitVec 64) (w : World) : (convert 12 45 (v64 x)).run Tryd.prog w = .ok (v64 x) w := conv64_64 x _ _ _ w rfl rfl
@[go_sem] theorem cv12_74 (x : BitVec 64) (w : World) : (convert 12 74 (v64 x)).run Tryd.prog w = .ok (v32 (x.setWidth 32)) w := conv64_32 x _ _ _ w rfl rfl
@[go_sem] theorem cv28_5 (n : Int) (w : World) : (convert 28 5 (.int .i64 n)).run Tryd.prog w = .ok (v8 (BitVec.ofInt 8 n)) w := conv_int8 n _ _ _ _ w rfl rfl
@[go_sem] theorem cv28_12 (n : Int) (w : World) : (convert 28 12 (.int .i64 n)).run Tryd.prog w = .ok (v64 (BitVec.ofInt 64 n)) w := conv_int64 n _ _ _ _ w rfl rfl
@[go_sem] theorem cv28_37 (n : Int) (w : World) : (convert 28 37 (.int .i64 n)).run Tryd.prog w = .ok (v64 (BitVec.ofInt 64 n)) w := conv_int64 n _ _ _ _ w rfl rfl
@[go_sem] theorem cv28_45 (n : Int) (w : World) : (convert 28 45 (.int .i64 n)).run Tryd.prog w = .ok (v64 (BitVec.ofInt 64 n)) w := conv_int64 n _ _ _ _ w rfl rfl
@[go_sem] theorem cv28_74 (n : Int) (w : World) : (convert 28 74 (.int .i64 n)).run Tryd.prog w = .ok (v32 (BitVec.ofInt 32 n)) w := conv_int32 n _ _ _ _ w rfl rfl
@[go_sem] theorem cv37_5 (x : BitVec 64) (w : World) : (convert 37 5 (v64 x)).run Tryd.prog w = .ok (v8 (x.setWidth 8)) w := conv64_8 x _ _ _ w rfl rfl
@[go_sem] theorem cv37_12 (x : BitVec 64) (w : World) : (convert 37 12 (v64 x)).run Tryd.prog w = .ok (v64 x) w := conv64_64 x _ _ _ w rfl rfl
@[go_sem] theorem cv37_45 (x : BitVec 64) (w : World) : (convert 37 45 (v64 x)).run Tryd.prog w = .ok (v64 x) w := conv64_64 x _ _ _ w rfl rfl
@[go_sem] theorem cv37_74 (x : BitVec 64) (w : World) : (convert 37 74 (v64 x)).run Tryd.prog w = .ok (v32 (x.setWidth 32)) w := conv64_32 x _ _ _ w rfl rfl
@[go_sem] theorem cv45_5 (x : BitVec 64) (w : World) : (convert 45 5 (v64 x)).run Tryd.prog w = .ok (v8 (x.setWidth 8)) w := conv64_8 x _ _ _ w rfl rfl
@[go_sem] theorem cv45_12 (x : BitVec 64) (w : World) : (convert 45 12 (v64 x)).run Tryd.prog w = .ok (v64 x) w := conv64_64 x _ _ _ w rfl rfl
@[go_sem] theorem cv45_37 (x : BitVec 64) (w : World) : (convert 45 37 (v64 x)).run Tryd.prog w = .ok (v64 x) w := conv64_64 x _ _ _ w rfl rfl
@[go_sem] theorem cv45_74 (x : BitVec 64) (w : World) : (convert 45 74 (v64 x)).run Tryd.prog w = .ok (v32 (x.setWidth 32)) w := conv64_32 x _ _ _ w rfl rfl
@[go_sem] theorem cv74_2 (x : BitVec 32) (w : World) : (convert 74 2 (v32 x)).run Tryd.prog w = .ok (.int .i64 x.toNat) w := conv32_i64 x _ _ _ w rfl rfl
@[go_sem] theorem cv74_3 (x : BitVec 32) (w : World) : (convert 74 3 (v32 x)).run Tryd.prog w = .ok (.int .i64 x.toNat) w := conv32_i64 x _ _ _ w rfl rfl
@[go_sem] theorem cv74_5 (x : BitVec 32) (w : World) : (convert 74 5 (v32 x)).run Tryd.prog w = .ok (v8 (x.setWidth 8)) w := conv32_8 x _ _ _ w rfl rfl
@[go_sem] theorem cv74_12 (x : BitVec 32) (w : World) : (convert 74 12 (v32 x)).run Tryd.prog w = .ok (v64 (x.setWidth 64)) w := conv32_64 x _ _ _ w rfl rfl
@[go_sem] theorem cv74_28 (x : BitVec 32) (w : World) : (convert 74 28 (v32 x)).run Tryd.prog w = .ok (.int .i64 x.toNat) w := conv32_i64 x _ _ _ w rfl rfl
@[go_sem] theorem cv74_37 (x : BitVec 32) (w : World) : (convert 74 37 (v32 x)).run Tryd.prog w = .ok (v64 (x.setWidth 64)) w := conv32_64 x _ _ _ w rfl rfl
@[go_sem] theorem cv74_45 (x : BitVec 32) (w : World) : (convert 74 45 (v32 x)).run Tryd.prog w = .ok (v64 (x.setWidth 64)) w := conv32_64 x _ _ _ w rfl rfl

end Go.Proofs.YtmclklhnbmkheaaDoor
