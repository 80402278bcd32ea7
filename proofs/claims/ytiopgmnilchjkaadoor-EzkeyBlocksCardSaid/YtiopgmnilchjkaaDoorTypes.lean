/-
  The sizes and zeros of this program's types, and the conversions among its kinds of numbers, by the kernel. No conditions.
-/
import Derived.Test.YtiopgmnilchjkaaDoorOwn
namespace Go.Proofs.YtiopgmnilchjkaaDoor
open Go Go.RowKit
set_option maxRecDepth 100000
set_option linter.unusedVariables false
set_option linter.unusedSimpArgs false

instance : One1 Tryd.prog 1 := ⟨by kernel_rfl, by kernel_rfl⟩
instance : One1 Tryd.prog 2 := ⟨by kernel_rfl, by kernel_rfl⟩
instance : ZeroOf Tryd.prog 2 [.int .i64 0] := ⟨by kernel_rfl⟩
instance : One1 Tryd.prog 3 := ⟨by kernel_rfl, by kernel_rfl⟩
instance : ZeroOf Tryd.prog 3 [.int .i64 0] := ⟨by kernel_rfl⟩
instance : One1 Tryd.prog 4 := ⟨by kernel_rfl, by kernel_rfl⟩
instance : ZeroOf Tryd.prog 4 [.bool false] := ⟨by kernel_rfl⟩
instance : One1 Tryd.prog 5 := ⟨by kernel_rfl, by kernel_rfl⟩
instance : ZeroOf Tryd.prog 5 [v8 0#8] := ⟨by kernel_rfl⟩
instance : Many Tryd.prog 7 4 := ⟨by kernel_rfl, by kernel_rfl⟩
instance : ZeroOf Tryd.prog 7 ([.int .i64 0, .int .i64 0, .bool false, v8 0#8]) := ⟨by kernel_rfl⟩
instance : One1 Tryd.prog 9 := ⟨by kernel_rfl, by kernel_rfl⟩
instance : ZeroOf Tryd.prog 9 [.string ⟨#[]⟩] := ⟨by kernel_rfl⟩
instance : One1 Tryd.prog 12 := ⟨by kernel_rfl, by kernel_rfl⟩
instance : ZeroOf Tryd.prog 12 [v64 0#64] := ⟨by kernel_rfl⟩
instance : Many Tryd.prog 13 2 := ⟨by kernel_rfl, by kernel_rfl⟩
instance : ZeroOf Tryd.prog 13 ([.string ⟨#[]⟩, v64 0#64]) := ⟨by kernel_rfl⟩
instance : Many Tryd.prog 18 1 := ⟨by kernel_rfl, by kernel_rfl⟩
instance : ZeroOf Tryd.prog 18 ([.pointer none]) := ⟨by kernel_rfl⟩
instance : One1 Tryd.prog 20 := ⟨by kernel_rfl, by kernel_rfl⟩
instance : ZeroOf Tryd.prog 20 [.nilIface] := ⟨by kernel_rfl⟩
instance : One1 Tryd.prog 21 := ⟨by kernel_rfl, by kernel_rfl⟩
instance : ZeroOf Tryd.prog 21 [.int .i32 0] := ⟨by kernel_rfl⟩
instance : One1 Tryd.prog 22 := ⟨by kernel_rfl, by kernel_rfl⟩
instance : ZeroOf Tryd.prog 22 [.slice none 0 0] := ⟨by kernel_rfl⟩
instance : One1 Tryd.prog 23 := ⟨by kernel_rfl, by kernel_rfl⟩
instance : ZeroOf Tryd.prog 23 [.pointer none] := ⟨by kernel_rfl⟩
instance : One1 Tryd.prog 25 := ⟨by kernel_rfl, by kernel_rfl⟩
instance : One1 Tryd.prog 26 := ⟨by kernel_rfl, by kernel_rfl⟩
instance : ZeroOf Tryd.prog 26 [.int .i64 0] := ⟨by kernel_rfl⟩
instance : One1 Tryd.prog 28 := ⟨by kernel_rfl, by kernel_rfl⟩
instance : One1 Tryd.prog 29 := ⟨by kernel_rfl, by kernel_rfl⟩
instance : ZeroOf Tryd.prog 29 [.pointer none] := ⟨by kernel_rfl⟩
instance : One1 Tryd.prog 30 := ⟨by kernel_rfl, by kernel_rfl⟩
instance : One1 Tryd.prog 31 := ⟨by kernel_rfl, by kernel_rfl⟩
instance : Many Tryd.prog 32 16 := ⟨by kernel_rfl, by kernel_rfl⟩
instance : ZeroOf Tryd.prog 32 ((zer (n := 8) 16).map v8) := ⟨by kernel_rfl⟩
instance : One1 Tryd.prog 33 := ⟨by kernel_rfl, by kernel_rfl⟩
instance : One1 Tryd.prog 34 := ⟨by kernel_rfl, by kernel_rfl⟩
instance : Many Tryd.prog 35 256 := ⟨by kernel_rfl, by kernel_rfl⟩
instance : ZeroOf Tryd.prog 35 ((zer (n := 8) 256).map v8) := ⟨by kernel_rfl⟩
instance : Many Tryd.prog 36 512 := ⟨by kernel_rfl, by kernel_rfl⟩
instance : ZeroOf Tryd.prog 36 ((zer (n := 8) 512).map v8) := ⟨by kernel_rfl⟩
instance : Many Tryd.prog 37 512 := ⟨by kernel_rfl, by kernel_rfl⟩
instance : ZeroOf Tryd.prog 37 ((zer (n := 8) 512).map v8) := ⟨by kernel_rfl⟩
instance : Many Tryd.prog 38 48 := ⟨by kernel_rfl, by kernel_rfl⟩
instance : ZeroOf Tryd.prog 38 ((zer (n := 8) 48).map v8) := ⟨by kernel_rfl⟩
instance : Many Tryd.prog 39 560 := ⟨by kernel_rfl, by kernel_rfl⟩
instance : ZeroOf Tryd.prog 39 ((zer (n := 8) 560).map v8) := ⟨by kernel_rfl⟩
instance : Many Tryd.prog 40 560 := ⟨by kernel_rfl, by kernel_rfl⟩
instance : ZeroOf Tryd.prog 40 ((zer (n := 8) 560).map v8) := ⟨by kernel_rfl⟩
instance : One1 Tryd.prog 41 := ⟨by kernel_rfl, by kernel_rfl⟩
instance : One1 Tryd.prog 42 := ⟨by kernel_rfl, by kernel_rfl⟩
instance : One1 Tryd.prog 43 := ⟨by kernel_rfl, by kernel_rfl⟩
instance : Many Tryd.prog 44 19 := ⟨by kernel_rfl, by kernel_rfl⟩
instance : ZeroOf Tryd.prog 44 ([.slice none 0 0, .int .i64 0, .int .i64 0] ++ ((zer (n := 8) 16).map v8)) := ⟨by kernel_rfl⟩
instance : Many Tryd.prog 45 19 := ⟨by kernel_rfl, by kernel_rfl⟩
instance : ZeroOf Tryd.prog 45 ([.slice none 0 0, .int .i64 0, .int .i64 0] ++ ((zer (n := 8) 16).map v8)) := ⟨by kernel_rfl⟩
instance : One1 Tryd.prog 46 := ⟨by kernel_rfl, by kernel_rfl⟩
instance : One1 Tryd.prog 47 := ⟨by kernel_rfl, by kernel_rfl⟩
instance : One1 Tryd.prog 48 := ⟨by kernel_rfl, by kernel_rfl⟩
instance : One1 Tryd.prog 49 := ⟨by kernel_rfl, by kernel_rfl⟩
instance : One1 Tryd.prog 50 := ⟨by kernel_rfl, by kernel_rfl⟩
instance : One1 Tryd.prog 51 := ⟨by kernel_rfl, by kernel_rfl⟩
instance : One1 Tryd.prog 52 := ⟨by kernel_rfl, by kernel_rfl⟩
instance : One1 Tryd.prog 53 := ⟨by kernel_rfl, by kernel_rfl⟩
instance : One1 Tryd.prog 54 := ⟨by kernel_rfl, by kernel_rfl⟩
instance : ZeroOf Tryd.prog 54 [v64 0#64] := ⟨by kernel_rfl⟩
instance : One1 Tryd.prog 55 := ⟨by kernel_rfl, by kernel_rfl⟩
instance : One1 Tryd.prog 56 := ⟨by kernel_rfl, by kernel_rfl⟩
instance : ZeroOf Tryd.prog 56 [v32 0#32] := ⟨by kernel_rfl⟩
instance : One1 Tryd.prog 57 := ⟨by kernel_rfl, by kernel_rfl⟩
instance : One1 Tryd.prog 58 := ⟨by kernel_rfl, by kernel_rfl⟩
instance : One1 Tryd.prog 59 := ⟨by kernel_rfl, by kernel_rfl⟩
instance : One1 Tryd.prog 60 := ⟨by kernel_rfl, by kernel_rfl⟩
instance : One1 Tryd.prog 61 := ⟨by kernel_rfl, by kernel_rfl⟩
instance : One1 Tryd.prog 62 := ⟨by kernel_rfl, by kernel_rfl⟩
instance : ZeroOf Tryd.prog 62 [.slice none 0 0] := ⟨by kernel_rfl⟩
instance : One1 Tryd.prog 63 := ⟨by kernel_rfl, by kernel_rfl⟩
instance : One1 Tryd.prog 64 := ⟨by kernel_rfl, by kernel_rfl⟩
instance : One1 Tryd.prog 65 := ⟨by kernel_rfl, by kernel_rfl⟩
instance : One1 Tryd.prog 66 := ⟨by kernel_rfl, by kernel_rfl⟩
instance : ZeroOf Tryd.prog 66 [v16 0#16] := ⟨by kernel_rfl⟩
instance : One1 Tryd.prog 67 := ⟨by kernel_rfl, by kernel_rfl⟩
instance : Many Tryd.prog 68 35 := ⟨by kernel_rfl, by kernel_rfl⟩
instance : ZeroOf Tryd.prog 68 ([.slice none 0 0] ++ ((zer (n := 8) 34).map v8)) := ⟨by kernel_rfl⟩
instance : Many Tryd.prog 69 35 := ⟨by kernel_rfl, by kernel_rfl⟩
instance : ZeroOf Tryd.prog 69 ([.slice none 0 0] ++ ((zer (n := 8) 34).map v8)) := ⟨by kernel_rfl⟩
instance : One1 Tryd.prog 70 := ⟨by kernel_rfl, by kernel_rfl⟩
instance : One1 Tryd.prog 71 := ⟨by kernel_rfl, by kernel_rfl⟩
instance : One1 Tryd.prog 73 := ⟨by kernel_rfl, by kernel_rfl⟩
instance : One1 Tryd.prog 74 := ⟨by kernel_rfl, by kernel_rfl⟩
instance : One1 Tryd.prog 75 := ⟨by kernel_rfl, by kernel_rfl⟩
instance : One1 Tryd.prog 76 := ⟨by kernel_rfl, by kernel_rfl⟩
instance : One1 Tryd.prog 77 := ⟨by kernel_rfl, by kernel_rfl⟩
instance : One1 Tryd.prog 78 := ⟨by kernel_rfl, by kernel_rfl⟩
instance : Many Tryd.prog 79 49 := ⟨by kernel_rfl, by kernel_rfl⟩
instance : ZeroOf Tryd.prog 79 ([.pointer none] ++ ((zer (n := 8) 48).map v8)) := ⟨by kernel_rfl⟩
instance : Many Tryd.prog 80 49 := ⟨by kernel_rfl, by kernel_rfl⟩
instance : ZeroOf Tryd.prog 80 ([.pointer none] ++ ((zer (n := 8) 48).map v8)) := ⟨by kernel_rfl⟩
instance : One1 Tryd.prog 81 := ⟨by kernel_rfl, by kernel_rfl⟩
instance : One1 Tryd.prog 82 := ⟨by kernel_rfl, by kernel_rfl⟩
instance : ZeroOf Tryd.prog 82 [.pointer none] := ⟨by kernel_rfl⟩
instance : One1 Tryd.prog 83 := ⟨by kernel_rfl, by kernel_rfl⟩
instance : One1 Tryd.prog 85 := ⟨by kernel_rfl, by kernel_rfl⟩
instance : One1 Tryd.prog 86 := ⟨by kernel_rfl, by kernel_rfl⟩
instance : One1 Tryd.prog 87 := ⟨by kernel_rfl, by kernel_rfl⟩
instance : ZeroOf Tryd.prog 87 [.slice none 0 0] := ⟨by kernel_rfl⟩
instance : One1 Tryd.prog 88 := ⟨by kernel_rfl, by kernel_rfl⟩
instance : One1 Tryd.prog 89 := ⟨by kernel_rfl, by kernel_rfl⟩
instance : One1 Tryd.prog 90 := ⟨by kernel_rfl, by kernel_rfl⟩
instance : One1 Tryd.prog 91 := ⟨by kernel_rfl, by kernel_rfl⟩
instance : ZeroOf Tryd.prog 91 [v64 0#64] := ⟨by kernel_rfl⟩
instance : One1 Tryd.prog 92 := ⟨by kernel_rfl, by kernel_rfl⟩
instance : One1 Tryd.prog 93 := ⟨by kernel_rfl, by kernel_rfl⟩
instance : One1 Tryd.prog 94 := ⟨by kernel_rfl, by kernel_rfl⟩
instance : One1 Tryd.prog 95 := ⟨by kernel_rfl, by kernel_rfl⟩
instance : One1 Tryd.prog 96 := ⟨by kernel_rfl, by kernel_rfl⟩
instance : One1 Tryd.prog 97 := ⟨by kernel_rfl, by kernel_rfl⟩
instance : ZeroOf Tryd.prog 97 [.pointer none] := ⟨by kernel_rfl⟩
instance : One1 Tryd.prog 99 := ⟨by kernel_rfl, by kernel_rfl⟩
instance : One1 Tryd.prog 100 := ⟨by kernel_rfl, by kernel_rfl⟩
instance : One1 Tryd.prog 101 := ⟨by kernel_rfl, by kernel_rfl⟩
instance : Many Tryd.prog 102 256 := ⟨by kernel_rfl, by kernel_rfl⟩
instance : ZeroOf Tryd.prog 102 ((zer (n := 32) 256).map v32) := ⟨by kernel_rfl⟩
instance : Many Tryd.prog 103 1024 := ⟨by kernel_rfl, by kernel_rfl⟩
instance : ZeroOf Tryd.prog 103 ((zer (n := 32) 1024).map v32) := ⟨by kernel_rfl⟩
instance : Many Tryd.prog 104 2049 := ⟨by kernel_rfl, by kernel_rfl⟩
instance : ZeroOf Tryd.prog 104 ([.pointer none] ++ ((zer (n := 32) 2048).map v32)) := ⟨by kernel_rfl⟩
instance : Many Tryd.prog 105 2049 := ⟨by kernel_rfl, by kernel_rfl⟩
instance : ZeroOf Tryd.prog 105 ([.pointer none] ++ ((zer (n := 32) 2048).map v32)) := ⟨by kernel_rfl⟩
instance : One1 Tryd.prog 106 := ⟨by kernel_rfl, by kernel_rfl⟩
instance : Many Tryd.prog 107 4 := ⟨by kernel_rfl, by kernel_rfl⟩
instance : ZeroOf Tryd.prog 107 ((zer (n := 8) 4).map v8) := ⟨by kernel_rfl⟩
instance : One1 Tryd.prog 108 := ⟨by kernel_rfl, by kernel_rfl⟩
instance : Many Tryd.prog 109 255 := ⟨by kernel_rfl, by kernel_rfl⟩
instance : ZeroOf Tryd.prog 109 ((zer (n := 8) 255).map v8) := ⟨by kernel_rfl⟩
instance : Many Tryd.prog 110 512 := ⟨by kernel_rfl, by kernel_rfl⟩
instance : ZeroOf Tryd.prog 110 ((zer (n := 8) 512).map v8) := ⟨by kernel_rfl⟩
instance : Many Tryd.prog 111 512 := ⟨by kernel_rfl, by kernel_rfl⟩
instance : ZeroOf Tryd.prog 111 ((zer (n := 8) 512).map v8) := ⟨by kernel_rfl⟩
instance : One1 Tryd.prog 112 := ⟨by kernel_rfl, by kernel_rfl⟩
instance : Many Tryd.prog 113 8 := ⟨by kernel_rfl, by kernel_rfl⟩
instance : ZeroOf Tryd.prog 113 ((zer (n := 64) 8).map v64) := ⟨by kernel_rfl⟩
instance : One1 Tryd.prog 114 := ⟨by kernel_rfl, by kernel_rfl⟩
instance : One1 Tryd.prog 115 := ⟨by kernel_rfl, by kernel_rfl⟩
instance : One1 Tryd.prog 116 := ⟨by kernel_rfl, by kernel_rfl⟩
instance : One1 Tryd.prog 117 := ⟨by kernel_rfl, by kernel_rfl⟩
instance : One1 Tryd.prog 118 := ⟨by kernel_rfl, by kernel_rfl⟩
instance : Many Tryd.prog 119 256 := ⟨by kernel_rfl, by kernel_rfl⟩
instance : ZeroOf Tryd.prog 119 ((zer (n := 8) 256).map v8) := ⟨by kernel_rfl⟩
instance : One1 Tryd.prog 120 := ⟨by kernel_rfl, by kernel_rfl⟩
instance : One1 Tryd.prog 121 := ⟨by kernel_rfl, by kernel_rfl⟩
instance : One1 Tryd.prog 122 := ⟨by kernel_rfl, by kernel_rfl⟩
instance : One1 Tryd.prog 123 := ⟨by kernel_rfl, by kernel_rfl⟩
instance : One1 Tryd.prog 124 := ⟨by kernel_rfl, by kernel_rfl⟩
instance : One1 Tryd.prog 125 := ⟨by kernel_rfl, by kernel_rfl⟩
instance : One1 Tryd.prog 126 := ⟨by kernel_rfl, by kernel_rfl⟩
instance : One1 Tryd.prog 127 := ⟨by kernel_rfl, by kernel_rfl⟩
instance : One1 Tryd.prog 128 := ⟨by kernel_rfl, by kernel_rfl⟩
instance : Many Tryd.prog 129 8 := ⟨by kernel_rfl, by kernel_rfl⟩
instance : ZeroOf Tryd.prog 129 ((zer (n := 8) 8).map v8) := ⟨by kernel_rfl⟩
instance : One1 Tryd.prog 130 := ⟨by kernel_rfl, by kernel_rfl⟩
instance : Many Tryd.prog 131 2 := ⟨by kernel_rfl, by kernel_rfl⟩
instance : ZeroOf Tryd.prog 131 ([v64 0#64, v64 0#64]) := ⟨by kernel_rfl⟩
instance : Many Tryd.prog 132 2 := ⟨by kernel_rfl, by kernel_rfl⟩
instance : ZeroOf Tryd.prog 132 ([v64 0#64, v64 0#64]) := ⟨by kernel_rfl⟩
instance : Many Tryd.prog 133 12 := ⟨by kernel_rfl, by kernel_rfl⟩
instance : ZeroOf Tryd.prog 133 (((zer (n := 64) 10).map v64) ++ [.slice none 0 0, .int .i64 0]) := ⟨by kernel_rfl⟩
instance : Many Tryd.prog 134 12 := ⟨by kernel_rfl, by kernel_rfl⟩
instance : ZeroOf Tryd.prog 134 (((zer (n := 64) 10).map v64) ++ [.slice none 0 0, .int .i64 0]) := ⟨by kernel_rfl⟩
instance : One1 Tryd.prog 135 := ⟨by kernel_rfl, by kernel_rfl⟩
instance : One1 Tryd.prog 136 := ⟨by kernel_rfl, by kernel_rfl⟩
instance : One1 Tryd.prog 137 := ⟨by kernel_rfl, by kernel_rfl⟩
instance : Many Tryd.prog 138 16 := ⟨by kernel_rfl, by kernel_rfl⟩
instance : ZeroOf Tryd.prog 138 ((zer (n := 64) 16).map v64) := ⟨by kernel_rfl⟩
instance : One1 Tryd.prog 139 := ⟨by kernel_rfl, by kernel_rfl⟩
instance : Many Tryd.prog 140 16 := ⟨by kernel_rfl, by kernel_rfl⟩
instance : ZeroOf Tryd.prog 140 ([.int .i64 0, .int .i64 0, .int .i64 0, .int .i64 0, .int .i64 0, .int .i64 0, .int .i64 0, .int .i64 0, .int .i64 0, .int .i64 0, .int .i64 0, .int .i64 0, .int .i64 0, .int .i64 0, .int .i64 0, .int .i64 0]) := ⟨by kernel_rfl⟩
instance : One1 Tryd.prog 141 := ⟨by kernel_rfl, by kernel_rfl⟩
instance : One1 Tryd.prog 142 := ⟨by kernel_rfl, by kernel_rfl⟩
instance : One1 Tryd.prog 143 := ⟨by kernel_rfl, by kernel_rfl⟩
instance : One1 Tryd.prog 144 := ⟨by kernel_rfl, by kernel_rfl⟩
instance : One1 Tryd.prog 145 := ⟨by kernel_rfl, by kernel_rfl⟩
instance : One1 Tryd.prog 146 := ⟨by kernel_rfl, by kernel_rfl⟩
instance : One1 Tryd.prog 147 := ⟨by kernel_rfl, by kernel_rfl⟩
instance : One1 Tryd.prog 148 := ⟨by kernel_rfl, by kernel_rfl⟩
instance : Many Tryd.prog 149 128 := ⟨by kernel_rfl, by kernel_rfl⟩
instance : ZeroOf Tryd.prog 149 ((zer (n := 8) 128).map v8) := ⟨by kernel_rfl⟩
instance : One1 Tryd.prog 150 := ⟨by kernel_rfl, by kernel_rfl⟩
instance : One1 Tryd.prog 151 := ⟨by kernel_rfl, by kernel_rfl⟩
instance : One1 Tryd.prog 152 := ⟨by kernel_rfl, by kernel_rfl⟩
instance : One1 Tryd.prog 154 := ⟨by kernel_rfl, by kernel_rfl⟩
instance : One1 Tryd.prog 155 := ⟨by kernel_rfl, by kernel_rfl⟩
instance : Many Tryd.prog 156 160 := ⟨by kernel_rfl, by kernel_rfl⟩
instance : ZeroOf Tryd.prog 156 ((zer (n := 8) 160).map v8) := ⟨by kernel_rfl⟩
instance : One1 Tryd.prog 157 := ⟨by kernel_rfl, by kernel_rfl⟩
instance : One1 Tryd.prog 158 := ⟨by kernel_rfl, by kernel_rfl⟩
instance : ZeroOf Tryd.prog 158 [.pointer none] := ⟨by kernel_rfl⟩
instance : One1 Tryd.prog 159 := ⟨by kernel_rfl, by kernel_rfl⟩
instance : One1 Tryd.prog 160 := ⟨by kernel_rfl, by kernel_rfl⟩
instance : One1 Tryd.prog 161 := ⟨by kernel_rfl, by kernel_rfl⟩
instance : Many Tryd.prog 162 4 := ⟨by kernel_rfl, by kernel_rfl⟩
instance : ZeroOf Tryd.prog 162 ([.pointer none, .pointer none, .pointer none, .string ⟨#[]⟩]) := ⟨by kernel_rfl⟩
instance : Many Tryd.prog 165 0 := ⟨by kernel_rfl, by kernel_rfl⟩
instance : ZeroOf Tryd.prog 165 ([]) := ⟨by kernel_rfl⟩
instance : One1 Tryd.prog 167 := ⟨by kernel_rfl, by kernel_rfl⟩
instance : One1 Tryd.prog 170 := ⟨by kernel_rfl, by kernel_rfl⟩
instance : One1 Tryd.prog 171 := ⟨by kernel_rfl, by kernel_rfl⟩
instance : ZeroOf Tryd.prog 171 [.pointer none] := ⟨by kernel_rfl⟩
instance : Many Tryd.prog 174 11 := ⟨by kernel_rfl, by kernel_rfl⟩
instance : ZeroOf Tryd.prog 174 ([v64 0#64, v64 0#64, v32 0#32] ++ ((zer (n := 8) 4).map v8) ++ [.nilFunc, .pointer none, .int .i32 0, .int .i32 0]) := ⟨by kernel_rfl⟩
instance : One1 Tryd.prog 176 := ⟨by kernel_rfl, by kernel_rfl⟩
@[go_sem] theorem cv2_5 (n : Int) (w : World) : (convert 2 5 (.int .i64 n)).run Tryd.prog w = .ok (v8 (BitVec.ofInt 8 n)) w := conv_int8 n _ _ _ _ w rfl rfl
@[go_sem] theorem cv2_12 (n : Int) (w : World) : (convert 2 12 (.int .i64 n)).run Tryd.prog w = .ok (v64 (BitVec.ofInt 64 n)) w := conv_int64 n _ _ _ _ w rfl rfl
@[go_sem] theorem cv2_54 (n : Int) (w : World) : (convert 2 54 (.int .i64 n)).run Tryd.prog w = .ok (v64 (BitVec.ofInt 64 n)) w := conv_int64 n _ _ _ _ w rfl rfl
@[go_sem] theorem cv2_56 (n : Int) (w : World) : (convert 2 56 (.int .i64 n)).run Tryd.prog w = .ok (v32 (BitVec.ofInt 32 n)) w := conv_int32 n _ _ _ _ w rfl rfl
@[go_sem] theorem cv2_66 (n : Int) (w : World) : (convert 2 66 (.int .i64 n)).run Tryd.prog w = .ok (v16 (BitVec.ofInt 16 n)) w := conv_int16 n _ _ _ _ w rfl rfl
@[go_sem] theorem cv2_91 (n : Int) (w : World) : (convert 2 91 (.int .i64 n)).run Tryd.prog w = .ok (v64 (BitVec.ofInt 64 n)) w := conv_int64 n _ _ _ _ w rfl rfl
@[go_sem] theorem cv3_5 (n : Int) (w : World) : (convert 3 5 (.int .i64 n)).run Tryd.prog w = .ok (v8 (BitVec.ofInt 8 n)) w := conv_int8 n _ _ _ _ w rfl rfl
@[go_sem] theorem cv3_12 (n : Int) (w : World) : (convert 3 12 (.int .i64 n)).run Tryd.prog w = .ok (v64 (BitVec.ofInt 64 n)) w := conv_int64 n _ _ _ _ w rfl rfl
@[go_sem] theorem cv3_54 (n : Int) (w : World) : (convert 3 54 (.int .i64 n)).run Tryd.prog w = .ok (v64 (BitVec.ofInt 64 n)) w := conv_int64 n _ _ _ _ w rfl rfl
@[go_sem] theorem cv3_56 (n : Int) (w : World) : (convert 3 56 (.int .i64 n)).run Tryd.prog w = .ok (v32 (BitVec.ofInt 32 n)) w := conv_int32 n _ _ _ _ w rfl rfl
@[go_sem] theorem cv3_66 (n : Int) (w : World) : (convert 3 66 (.int .i64 n)).run Tryd.prog w = .ok (v16 (BitVec.ofInt 16 n)) w := conv_int16 n _ _ _ _ w rfl rfl
@[go_sem] theorem cv3_91 (n : Int) (w : World) : (convert 3 91 (.int .i64 n)).run Tryd.prog w = .ok (v64 (BitVec.ofInt 64 n)) w := conv_int64 n _ _ _ _ w rfl rfl
@[go_sem] theorem cv5_2 (x : BitVec 8) (w : World) : (convert 5 2 (v8 x)).run Tryd.prog w = .ok (.int .i64 x.toNat) w := conv8_i64 x _ _ _ w rfl rfl
@[go_sem] theorem cv5_3 (x : BitVec 8) (w : World) : (convert 5 3 (v8 x)).run Tryd.prog w = .ok (.int .i64 x.toNat) w := conv8_i64 x _ _ _ w rfl rfl
@[go_sem] theorem cv5_12 (x : BitVec 8) (w : World) : (convert 5 12 (v8 x)).run Tryd.prog w = .ok (v64 (x.setWidth 64)) w := conv8_64 x _ _ _ w rfl rfl
@[go_sem] theorem cv5_26 (x : BitVec 8) (w : World) : (convert 5 26 (v8 x)).run Tryd.prog w = .ok (.int .i64 x.toNat) w := conv8_i64 x _ _ _ w rfl rfl
@[go_sem] theorem cv5_54 (x : BitVec 8) (w : World) : (convert 5 54 (v8 x)).run Tryd.prog w = .ok (v64 (x.setWidth 64)) w := conv8_64 x _ _ _ w rfl rfl
@[go_sem] theorem cv5_56 (x : BitVec 8) (w : World) : (convert 5 56 (v8 x)).run Tryd.prog w = .ok (v32 (x.setWidth 32)) w := conv8_32 x _ _ _ w rfl rfl
@[go_sem] theorem cv5_66 (x : BitVec 8) (w : World) : (convert 5 66 (v8 x)).run Tryd.prog w = .ok (v16 (x.setWidth 16)) w := conv8_16 x _ _ _ w rfl rfl
@[go_sem] theorem cv5_91 (x : BitVec 8) (w : World) : (convert 5 91 (v8 x)).run Tryd.prog w = .ok (v64 (x.setWidth 64)) w := conv8_64 x _ _ _ w rfl rfl
@[go_sem] theorem cv12_5 (x : BitVec 64) (w : World) : (convert 12 5 (v64 x)).run Tryd.prog w = .ok (v8 (x.setWidth 8)) w := conv64_8 x _ _ _ w rfl rfl
@[go_sem] theorem cv12_54 (x : BitVec 64) (w : World) : (convert 12 54 (v64 x)).run Tryd.prog w = .ok (v64 x) w := conv64_64 x _ _ _ w rfl rfl
@[go_sem] theorem cv12_56 (x : BitVec 64) (w : World) : (convert 12 56 (v64 x)).run Tryd.prog w = .ok (v32 (x.setWidth 32)) w := conv64_32 x _ _ _ w rfl rfl
@[go_sem] theorem cv12_66 (x : BitVec 64) (w : World) : (convert 12 66 (v64 x)).run Tryd.prog w = .ok (v16 (x.setWidth 16)) w := conv64_16 x _ _ _ w rfl rfl
@[go_sem] theorem cv12_91 (x : BitVec 64) (w : World) : (convert 12 91 (v64 x)).run Tryd.prog w = .ok (v64 x) w := conv64_64 x _ _ _ w rfl rfl
@[go_sem] theorem cv26_5 (n : Int) (w : World) : (convert 26 5 (.int .i64 n)).run Tryd.prog w = .ok (v8 (BitVec.ofInt 8 n)) w := conv_int8 n _ _ _ _ w rfl rfl
@[go_sem] theorem cv26_12 (n : Int) (w : World) : (convert 26 12 (.int .i64 n)).run Tryd.prog w = .ok (v64 (BitVec.ofInt 64 n)) w := conv_int64 n _ _ _ _ w rfl rfl
@[go_sem] theorem cv26_54 (n : Int) (w : World) : (convert 26 54 (.int .i64 n)).run Tryd.prog w = .ok (v64 (BitVec.ofInt 64 n)) w := conv_int64 n _ _ _ _ w rfl rfl
@[go_sem] theorem cv26_56 (n : Int) (w : World) : (convert 26 56 (.int .i64 n)).run Tryd.prog w = .ok (v32 (BitVec.ofInt 32 n)) w := conv_int32 n _ _ _ _ w rfl rfl
@[go_sem] theorem cv26_66 (n : Int) (w : World) : (convert 26 66 (.int .i64 n)).run Tryd.prog w = .ok (v16 (BitVec.ofInt 16 n)) w := conv_int16 n _ _ _ _ w rfl rfl
@[go_sem] theorem cv26_91 (n : Int) (w : World) : (convert 26 91 (.int .i64 n)).run Tryd.prog w = .ok (v64 (BitVec.ofInt 64 n)) w := conv_int64 n _ _ _ _ w rfl rfl
@[go_sem] theorem cv54_5 (x : BitVec 64) (w : World) : (convert 54 5 (v64 x)).run Tryd.prog w = .ok (v8 (x.setWidth 8)) w := conv64_8 x _ _ _ w rfl rfl
@[go_sem] theorem cv54_12 (x : BitVec 64) (w : World) : (convert 54 12 (v64 x)).run Tryd.prog w = .ok (v64 x) w := conv64_64 x _ _ _ w rfl rfl
@[go_sem] theorem cv54_56 (x : BitVec 64) (w : World) : (convert 54 56 (v64 x)).run Tryd.prog w = .ok (v32 (x.setWidth 32)) w := conv64_32 x _ _ _ w rfl rfl
@[go_sem] theorem cv54_66 (x : BitVec 64) (w : World) : (convert 54 66 (v64 x)).run Tryd.prog w = .ok (v16 (x.setWidth 16)) w := conv64_16 x _ _ _ w rfl rfl
@[go_sem] theorem cv54_91 (x : BitVec 64) (w : World) : (convert 54 91 (v64 x)).run Tryd.prog w = .ok (v64 x) w := conv64_64 x _ _ _ w rfl rfl
@[go_sem] theorem cv56_2 (x : BitVec 32) (w : World) : (convert 56 2 (v32 x)).run Tryd.prog w = .ok (.int .i64 x.toNat) w := conv32_i64 x _ _ _ w rfl rfl
@[go_sem] theorem cv56_3 (x : BitVec 32) (w : World) : (convert 56 3 (v32 x)).run Tryd.prog w = .ok (.int .i64 x.toNat) w := conv32_i64 x _ _ _ w rfl rfl
@[go_sem] theorem cv56_5 (x : BitVec 32) (w : World) : (convert 56 5 (v32 x)).run Tryd.prog w = .ok (v8 (x.setWidth 8)) w := conv32_8 x _ _ _ w rfl rfl
@[go_sem] theorem cv56_12 (x : BitVec 32) (w : World) : (convert 56 12 (v32 x)).run Tryd.prog w = .ok (v64 (x.setWidth 64)) w := conv32_64 x _ _ _ w rfl rfl
@[go_sem] theorem cv56_26 (x : BitVec 32) (w : World) : (convert 56 26 (v32 x)).run Tryd.prog w = .ok (.int .i64 x.toNat) w := conv32_i64 x _ _ _ w rfl rfl
@[go_sem] theorem cv56_54 (x : BitVec 32) (w : World) : (convert 56 54 (v32 x)).run Tryd.prog w = .ok (v64 (x.setWidth 64)) w := conv32_64 x _ _ _ w rfl rfl
@[go_sem] theorem cv56_66 (x : BitVec 32) (w : World) : (convert 56 66 (v32 x)).run Tryd.prog w = .ok (v16 (x.setWidth 16)) w := conv32_16 x _ _ _ w rfl rfl
@[go_sem] theorem cv56_91 (x : BitVec 32) (w : World) : (convert 56 91 (v32 x)).run Tryd.prog w = .ok (v64 (x.setWidth 64)) w := conv32_64 x _ _ _ w rfl rfl
@[go_sem] theorem cv66_2 (x : BitVec 16) (w : World) : (convert 66 2 (v16 x)).run Tryd.prog w = .ok (.int .i64 x.toNat) w := conv16_i64 x _ _ _ w rfl rfl
@[go_sem] theorem cv66_3 (x : BitVec 16) (w : World) : (convert 66 3 (v16 x)).run Tryd.prog w = .ok (.int .i64 x.toNat) w := conv16_i64 x _ _ _ w rfl rfl
@[go_sem] theorem cv66_5 (x : BitVec 16) (w : World) : (convert 66 5 (v16 x)).run Tryd.prog w = .ok (v8 (x.setWidth 8)) w := conv16_8 x _ _ _ w rfl rfl
@[go_sem] theorem cv66_12 (x : BitVec 16) (w : World) : (convert 66 12 (v16 x)).run Tryd.prog w = .ok (v64 (x.setWidth 64)) w := conv16_64 x _ _ _ w rfl rfl
@[go_sem] theorem cv66_26 (x : BitVec 16) (w : World) : (convert 66 26 (v16 x)).run Tryd.prog w = .ok (.int .i64 x.toNat) w := conv16_i64 x _ _ _ w rfl rfl
@[go_sem] theorem cv66_54 (x : BitVec 16) (w : World) : (convert 66 54 (v16 x)).run Tryd.prog w = .ok (v64 (x.setWidth 64)) w := conv16_64 x _ _ _ w rfl rfl
@[go_sem] theorem cv66_56 (x : BitVec 16) (w : World) : (convert 66 56 (v16 x)).run Tryd.prog w = .ok (v32 (x.setWidth 32)) w := conv16_32 x _ _ _ w rfl rfl
@[go_sem] theorem cv66_91 (x : BitVec 16) (w : World) : (convert 66 91 (v16 x)).run Tryd.prog w = .ok (v64 (x.setWidth 64)) w := conv16_64 x _ _ _ w rfl rfl
@[go_sem] theorem cv91_5 (x : BitVec 64) (w : World) : (convert 91 5 (v64 x)).run Tryd.prog w = .ok (v8 (x.setWidth 8)) w := conv64_8 x _ _ _ w rfl rfl
@[go_sem] theorem cv91_12 (x : BitVec 64) (w : World) : (convert 91 12 (v64 x)).run Tryd.prog w = .ok (v64 x) w := conv64_64 x _ _ _ w rfl rfl
@[go_sem] theorem cv91_54 (x : BitVec 64) (w : World) : (convert 91 54 (v64 x)).run Tryd.prog w = .ok (v64 x) w := conv64_64 x _ _ _ w rfl rfl
@[go_sem] theorem cv91_56 (x : BitVec 64) (w : World) : (convert 91 56 (v64 x)).run Tryd.prog w = .ok (v32 (x.setWidth 32)) w := conv64_32 x _ _ _ w rfl rfl
@[go_sem] theorem cv91_66 (x : BitVec 64) (w : World) : (convert 91 66 (v64 x)).run Tryd.prog w = .ok (v16 (x.setWidth 16)) w := conv64_16 x _ _ _ w rfl rfl

end Go.Proofs.YtiopgmnilchjkaaDoor
