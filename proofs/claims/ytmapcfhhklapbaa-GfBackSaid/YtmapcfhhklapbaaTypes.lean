/-
  The sizes and zeros of this program's types, and the conversions among its kinds of numbers, by the kernel. No conditions.
-/
import Derived.Test.YtmapcfhhklapbaaOwn
namespace Go.Proofs.Ytmapcfhhklapbaa
open Go Go.RowKit
set_option maxRecDepth 100000

instance : One1 Try.prog 1 := ⟨by kernel_rfl, by kernel_rfl⟩
instance : One1 Try.prog 2 := ⟨by kernel_rfl, by kernel_rfl⟩
instance : ZeroOf Try.prog 2 [.int .i64 0] := ⟨by kernel_rfl⟩
instance : One1 Try.prog 3 := ⟨by kernel_rfl, by kernel_rfl⟩
instance : ZeroOf Try.prog 3 [.int .i64 0] := ⟨by kernel_rfl⟩
instance : One1 Try.prog 4 := ⟨by kernel_rfl, by kernel_rfl⟩
instance : ZeroOf Try.prog 4 [.bool false] := ⟨by kernel_rfl⟩
instance : One1 Try.prog 5 := ⟨by kernel_rfl, by kernel_rfl⟩
instance : ZeroOf Try.prog 5 [v8 0#8] := ⟨by kernel_rfl⟩
instance : Many Try.prog 7 4 := ⟨by kernel_rfl, by kernel_rfl⟩
instance : ZeroOf Try.prog 7 ([.int .i64 0, .int .i64 0, .bool false, v8 0#8]) := ⟨by kernel_rfl⟩
instance : One1 Try.prog 9 := ⟨by kernel_rfl, by kernel_rfl⟩
instance : ZeroOf Try.prog 9 [.string ⟨#[]⟩] := ⟨by kernel_rfl⟩
instance : One1 Try.prog 12 := ⟨by kernel_rfl, by kernel_rfl⟩
instance : ZeroOf Try.prog 12 [v64 0#64] := ⟨by kernel_rfl⟩
instance : Many Try.prog 13 2 := ⟨by kernel_rfl, by kernel_rfl⟩
instance : ZeroOf Try.prog 13 ([.string ⟨#[]⟩, v64 0#64]) := ⟨by kernel_rfl⟩
instance : Many Try.prog 18 1 := ⟨by kernel_rfl, by kernel_rfl⟩
instance : ZeroOf Try.prog 18 ([.pointer none]) := ⟨by kernel_rfl⟩
instance : One1 Try.prog 20 := ⟨by kernel_rfl, by kernel_rfl⟩
instance : ZeroOf Try.prog 20 [.nilIface] := ⟨by kernel_rfl⟩
instance : One1 Try.prog 21 := ⟨by kernel_rfl, by kernel_rfl⟩
instance : ZeroOf Try.prog 21 [.int .i32 0] := ⟨by kernel_rfl⟩
instance : One1 Try.prog 22 := ⟨by kernel_rfl, by kernel_rfl⟩
instance : ZeroOf Try.prog 22 [.slice none 0 0] := ⟨by kernel_rfl⟩
instance : One1 Try.prog 23 := ⟨by kernel_rfl, by kernel_rfl⟩
instance : ZeroOf Try.prog 23 [v16 0#16] := ⟨by kernel_rfl⟩
instance : One1 Try.prog 24 := ⟨by kernel_rfl, by kernel_rfl⟩
instance : ZeroOf Try.prog 24 [v32 0#32] := ⟨by kernel_rfl⟩
instance : One1 Try.prog 25 := ⟨by kernel_rfl, by kernel_rfl⟩
instance : One1 Try.prog 26 := ⟨by kernel_rfl, by kernel_rfl⟩
instance : ZeroOf Try.prog 26 [v64 0#64] := ⟨by kernel_rfl⟩
instance : One1 Try.prog 27 := ⟨by kernel_rfl, by kernel_rfl⟩
instance : One1 Try.prog 28 := ⟨by kernel_rfl, by kernel_rfl⟩
instance : ZeroOf Try.prog 28 [v64 0#64] := ⟨by kernel_rfl⟩
instance : Many Try.prog 29 2 := ⟨by kernel_rfl, by kernel_rfl⟩
instance : ZeroOf Try.prog 29 ([v64 0#64, v64 0#64]) := ⟨by kernel_rfl⟩
instance : Many Try.prog 30 2 := ⟨by kernel_rfl, by kernel_rfl⟩
instance : ZeroOf Try.prog 30 ([v64 0#64, v64 0#64]) := ⟨by kernel_rfl⟩
instance : One1 Try.prog 31 := ⟨by kernel_rfl, by kernel_rfl⟩
instance : One1 Try.prog 32 := ⟨by kernel_rfl, by kernel_rfl⟩
instance : One1 Try.prog 33 := ⟨by kernel_rfl, by kernel_rfl⟩
instance : Many Try.prog 34 16 := ⟨by kernel_rfl, by kernel_rfl⟩
instance : ZeroOf Try.prog 34 ((zer (n := 8) 16).map v8) := ⟨by kernel_rfl⟩
instance : One1 Try.prog 35 := ⟨by kernel_rfl, by kernel_rfl⟩
instance : One1 Try.prog 36 := ⟨by kernel_rfl, by kernel_rfl⟩
instance : One1 Try.prog 37 := ⟨by kernel_rfl, by kernel_rfl⟩
instance : One1 Try.prog 38 := ⟨by kernel_rfl, by kernel_rfl⟩
instance : One1 Try.prog 39 := ⟨by kernel_rfl, by kernel_rfl⟩
instance : One1 Try.prog 40 := ⟨by kernel_rfl, by kernel_rfl⟩
instance : Many Try.prog 41 4 := ⟨by kernel_rfl, by kernel_rfl⟩
instance : ZeroOf Try.prog 41 ([.slice none 0 0, .slice none 0 0, v8 0#8, .int .i64 0]) := ⟨by kernel_rfl⟩
instance : Many Try.prog 42 4 := ⟨by kernel_rfl, by kernel_rfl⟩
instance : ZeroOf Try.prog 42 ([.slice none 0 0, .slice none 0 0, v8 0#8, .int .i64 0]) := ⟨by kernel_rfl⟩
instance : One1 Try.prog 43 := ⟨by kernel_rfl, by kernel_rfl⟩
instance : One1 Try.prog 44 := ⟨by kernel_rfl, by kernel_rfl⟩
instance : One1 Try.prog 45 := ⟨by kernel_rfl, by kernel_rfl⟩
instance : Many Try.prog 46 4 := ⟨by kernel_rfl, by kernel_rfl⟩
instance : ZeroOf Try.prog 46 ((zer (n := 8) 4).map v8) := ⟨by kernel_rfl⟩
instance : One1 Try.prog 47 := ⟨by kernel_rfl, by kernel_rfl⟩
instance : Many Try.prog 48 8 := ⟨by kernel_rfl, by kernel_rfl⟩
instance : ZeroOf Try.prog 48 ((zer (n := 8) 8).map v8) := ⟨by kernel_rfl⟩
instance : One1 Try.prog 49 := ⟨by kernel_rfl, by kernel_rfl⟩
instance : One1 Try.prog 50 := ⟨by kernel_rfl, by kernel_rfl⟩
instance : One1 Try.prog 51 := ⟨by kernel_rfl, by kernel_rfl⟩
instance : One1 Try.prog 52 := ⟨by kernel_rfl, by kernel_rfl⟩
instance : One1 Try.prog 53 := ⟨by kernel_rfl, by kernel_rfl⟩
instance : One1 Try.prog 54 := ⟨by kernel_rfl, by kernel_rfl⟩
instance : One1 Try.prog 55 := ⟨by kernel_rfl, by kernel_rfl⟩
instance : One1 Try.prog 56 := ⟨by kernel_rfl, by kernel_rfl⟩
instance : One1 Try.prog 57 := ⟨by kernel_rfl, by kernel_rfl⟩
instance : One1 Try.prog 58 := ⟨by kernel_rfl, by kernel_rfl⟩
instance : One1 Try.prog 59 := ⟨by kernel_rfl, by kernel_rfl⟩
instance : One1 Try.prog 60 := ⟨by kernel_rfl, by kernel_rfl⟩
instance : One1 Try.prog 61 := ⟨by kernel_rfl, by kernel_rfl⟩
instance : One1 Try.prog 62 := ⟨by kernel_rfl, by kernel_rfl⟩
instance : One1 Try.prog 63 := ⟨by kernel_rfl, by kernel_rfl⟩
instance : One1 Try.prog 64 := ⟨by kernel_rfl, by kernel_rfl⟩
instance : ZeroOf Try.prog 64 [.pointer none] := ⟨by kernel_rfl⟩
instance : One1 Try.prog 65 := ⟨by kernel_rfl, by kernel_rfl⟩
instance : One1 Try.prog 66 := ⟨by kernel_rfl, by kernel_rfl⟩
instance : Many Try.prog 67 256 := ⟨by kernel_rfl, by kernel_rfl⟩
instance : ZeroOf Try.prog 67 ((zer (n := 8) 256).map v8) := ⟨by kernel_rfl⟩
instance : One1 Try.prog 68 := ⟨by kernel_rfl, by kernel_rfl⟩
instance : One1 Try.prog 69 := ⟨by kernel_rfl, by kernel_rfl⟩
instance : One1 Try.prog 70 := ⟨by kernel_rfl, by kernel_rfl⟩
instance : One1 Try.prog 71 := ⟨by kernel_rfl, by kernel_rfl⟩
instance : One1 Try.prog 72 := ⟨by kernel_rfl, by kernel_rfl⟩
instance : One1 Try.prog 73 := ⟨by kernel_rfl, by kernel_rfl⟩
instance : One1 Try.prog 74 := ⟨by kernel_rfl, by kernel_rfl⟩
instance : One1 Try.prog 76 := ⟨by kernel_rfl, by kernel_rfl⟩
instance : Many Try.prog 77 255 := ⟨by kernel_rfl, by kernel_rfl⟩
instance : ZeroOf Try.prog 77 ((zer (n := 8) 255).map v8) := ⟨by kernel_rfl⟩
instance : Many Try.prog 78 512 := ⟨by kernel_rfl, by kernel_rfl⟩
instance : ZeroOf Try.prog 78 ((zer (n := 8) 512).map v8) := ⟨by kernel_rfl⟩
instance : Many Try.prog 79 512 := ⟨by kernel_rfl, by kernel_rfl⟩
instance : ZeroOf Try.prog 79 ((zer (n := 8) 512).map v8) := ⟨by kernel_rfl⟩
instance : One1 Try.prog 80 := ⟨by kernel_rfl, by kernel_rfl⟩
instance : One1 Try.prog 81 := ⟨by kernel_rfl, by kernel_rfl⟩
instance : Many Try.prog 82 4 := ⟨by kernel_rfl, by kernel_rfl⟩
instance : ZeroOf Try.prog 82 ([.pointer none, .pointer none, .pointer none, .string ⟨#[]⟩]) := ⟨by kernel_rfl⟩
instance : Many Try.prog 85 0 := ⟨by kernel_rfl, by kernel_rfl⟩
instance : ZeroOf Try.prog 85 ([]) := ⟨by kernel_rfl⟩
instance : One1 Try.prog 87 := ⟨by kernel_rfl, by kernel_rfl⟩
instance : One1 Try.prog 90 := ⟨by kernel_rfl, by kernel_rfl⟩
instance : One1 Try.prog 91 := ⟨by kernel_rfl, by kernel_rfl⟩
instance : ZeroOf Try.prog 91 [.pointer none] := ⟨by kernel_rfl⟩
instance : Many Try.prog 94 11 := ⟨by kernel_rfl, by kernel_rfl⟩
instance : ZeroOf Try.prog 94 ([v64 0#64, v64 0#64, v32 0#32] ++ ((zer (n := 8) 4).map v8) ++ [.nilFunc, .pointer none, .int .i32 0, .int .i32 0]) := ⟨by kernel_rfl⟩
@[go_sem] theorem cv2_5 (n : Int) (w : World) : (convert 2 5 (.int .i64 n)).run Try.prog w = .ok (v8 (BitVec.ofInt 8 n)) w := conv_int8 n _ _ _ _ w rfl rfl
@[go_sem] theorem cv2_12 (n : Int) (w : World) : (convert 2 12 (.int .i64 n)).run Try.prog w = .ok (v64 (BitVec.ofInt 64 n)) w := conv_int64 n _ _ _ _ w rfl rfl
@[go_sem] theorem cv2_23 (n : Int) (w : World) : (convert 2 23 (.int .i64 n)).run Try.prog w = .ok (v16 (BitVec.ofInt 16 n)) w := conv_int16 n _ _ _ _ w rfl rfl
@[go_sem] theorem cv2_24 (n : Int) (w : World) : (convert 2 24 (.int .i64 n)).run Try.prog w = .ok (v32 (BitVec.ofInt 32 n)) w := conv_int32 n _ _ _ _ w rfl rfl
@[go_sem] theorem cv2_26 (n : Int) (w : World) : (convert 2 26 (.int .i64 n)).run Try.prog w = .ok (v64 (BitVec.ofInt 64 n)) w := conv_int64 n _ _ _ _ w rfl rfl
@[go_sem] theorem cv2_28 (n : Int) (w : World) : (convert 2 28 (.int .i64 n)).run Try.prog w = .ok (v64 (BitVec.ofInt 64 n)) w := conv_int64 n _ _ _ _ w rfl rfl
@[go_sem] theorem cv3_5 (n : Int) (w : World) : (convert 3 5 (.int .i64 n)).run Try.prog w = .ok (v8 (BitVec.ofInt 8 n)) w := conv_int8 n _ _ _ _ w rfl rfl
@[go_sem] theorem cv3_12 (n : Int) (w : World) : (convert 3 12 (.int .i64 n)).run Try.prog w = .ok (v64 (BitVec.ofInt 64 n)) w := conv_int64 n _ _ _ _ w rfl rfl
@[go_sem] theorem cv3_23 (n : Int) (w : World) : (convert 3 23 (.int .i64 n)).run Try.prog w = .ok (v16 (BitVec.ofInt 16 n)) w := conv_int16 n _ _ _ _ w rfl rfl
@[go_sem] theorem cv3_24 (n : Int) (w : World) : (convert 3 24 (.int .i64 n)).run Try.prog w = .ok (v32 (BitVec.ofInt 32 n)) w := conv_int32 n _ _ _ _ w rfl rfl
@[go_sem] theorem cv3_26 (n : Int) (w : World) : (convert 3 26 (.int .i64 n)).run Try.prog w = .ok (v64 (BitVec.ofInt 64 n)) w := conv_int64 n _ _ _ _ w rfl rfl
@[go_sem] theorem cv3_28 (n : Int) (w : World) : (convert 3 28 (.int .i64 n)).run Try.prog w = .ok (v64 (BitVec.ofInt 64 n)) w := conv_int64 n _ _ _ _ w rfl rfl
@[go_sem] theorem cv5_2 (x : BitVec 8) (w : World) : (convert 5 2 (v8 x)).run Try.prog w = .ok (.int .i64 x.toNat) w := conv8_i64 x _ _ _ w rfl rfl
@[go_sem] theorem cv5_3 (x : BitVec 8) (w : World) : (convert 5 3 (v8 x)).run Try.prog w = .ok (.int .i64 x.toNat) w := conv8_i64 x _ _ _ w rfl rfl
@[go_sem] theorem cv5_12 (x : BitVec 8) (w : World) : (convert 5 12 (v8 x)).run Try.prog w = .ok (v64 (x.setWidth 64)) w := conv8_64 x _ _ _ w rfl rfl
@[go_sem] theorem cv5_23 (x : BitVec 8) (w : World) : (convert 5 23 (v8 x)).run Try.prog w = .ok (v16 (x.setWidth 16)) w := conv8_16 x _ _ _ w rfl rfl
@[go_sem] theorem cv5_24 (x : BitVec 8) (w : World) : (convert 5 24 (v8 x)).run Try.prog w = .ok (v32 (x.setWidth 32)) w := conv8_32 x _ _ _ w rfl rfl
@[go_sem] theorem cv5_26 (x : BitVec 8) (w : World) : (convert 5 26 (v8 x)).run Try.prog w = .ok (v64 (x.setWidth 64)) w := conv8_64 x _ _ _ w rfl rfl
@[go_sem] theorem cv5_28 (x : BitVec 8) (w : World) : (convert 5 28 (v8 x)).run Try.prog w = .ok (v64 (x.setWidth 64)) w := conv8_64 x _ _ _ w rfl rfl
@[go_sem] theorem cv12_5 (x : BitVec 64) (w : World) : (convert 12 5 (v64 x)).run Try.prog w = .ok (v8 (x.setWidth 8)) w := conv64_8 x _ _ _ w rfl rfl
@[go_sem] theorem cv12_23 (x : BitVec 64) (w : World) : (convert 12 23 (v64 x)).run Try.prog w = .ok (v16 (x.setWidth 16)) w := conv64_16 x _ _ _ w rfl rfl
@[go_sem] theorem cv12_24 (x : BitVec 64) (w : World) : (convert 12 24 (v64 x)).run Try.prog w = .ok (v32 (x.setWidth 32)) w := conv64_32 x _ _ _ w rfl rfl
@[go_sem] theorem cv12_26 (x : BitVec 64) (w : World) : (convert 12 26 (v64 x)).run Try.prog w = .ok (v64 x) w := conv64_64 x _ _ _ w rfl rfl
@[go_sem] theorem cv12_28 (x : BitVec 64) (w : World) : (convert 12 28 (v64 x)).run Try.prog w = .ok (v64 x) w := conv64_64 x _ _ _ w rfl rfl
@[go_sem] theorem cv23_2 (x : BitVec 16) (w : World) : (convert 23 2 (v16 x)).run Try.prog w = .ok (.int .i64 x.toNat) w := conv16_i64 x _ _ _ w rfl rfl
@[go_sem] theorem cv23_3 (x : BitVec 16) (w : World) : (convert 23 3 (v16 x)).run Try.prog w = .ok (.int .i64 x.toNat) w := conv16_i64 x _ _ _ w rfl rfl
@[go_sem] theorem cv23_5 (x : BitVec 16) (w : World) : (convert 23 5 (v16 x)).run Try.prog w = .ok (v8 (x.setWidth 8)) w := conv16_8 x _ _ _ w rfl rfl
@[go_sem] theorem cv23_12 (x : BitVec 16) (w : World) : (convert 23 12 (v16 x)).run Try.prog w = .ok (v64 (x.setWidth 64)) w := conv16_64 x _ _ _ w rfl rfl
@[go_sem] theorem cv23_24 (x : BitVec 16) (w : World) : (convert 23 24 (v16 x)).run Try.prog w = .ok (v32 (x.setWidth 32)) w := conv16_32 x _ _ _ w rfl rfl
@[go_sem] theorem cv23_26 (x : BitVec 16) (w : World) : (convert 23 26 (v16 x)).run Try.prog w = .ok (v64 (x.setWidth 64)) w := conv16_64 x _ _ _ w rfl rfl
@[go_sem] theorem cv23_28 (x : BitVec 16) (w : World) : (convert 23 28 (v16 x)).run Try.prog w = .ok (v64 (x.setWidth 64)) w := conv16_64 x _ _ _ w rfl rfl
@[go_sem] theorem cv24_2 (x : BitVec 32) (w : World) : (convert 24 2 (v32 x)).run Try.prog w = .ok (.int .i64 x.toNat) w := conv32_i64 x _ _ _ w rfl rfl
@[go_sem] theorem cv24_3 (x : BitVec 32) (w : World) : (convert 24 3 (v32 x)).run Try.prog w = .ok (.int .i64 x.toNat) w := conv32_i64 x _ _ _ w rfl rfl
@[go_sem] theorem cv24_5 (x : BitVec 32) (w : World) : (convert 24 5 (v32 x)).run Try.prog w = .ok (v8 (x.setWidth 8)) w := conv32_8 x _ _ _ w rfl rfl
@[go_sem] theorem cv24_12 (x : BitVec 32) (w : World) : (convert 24 12 (v32 x)).run Try.prog w = .ok (v64 (x.setWidth 64)) w := conv32_64 x _ _ _ w rfl rfl
@[go_sem] theorem cv24_23 (x : BitVec 32) (w : World) : (convert 24 23 (v32 x)).run Try.prog w = .ok (v16 (x.setWidth 16)) w := conv32_16 x _ _ _ w rfl rfl
@[go_sem] theorem cv24_26 (x : BitVec 32) (w : World) : (convert 24 26 (v32 x)).run Try.prog w = .ok (v64 (x.setWidth 64)) w := conv32_64 x _ _ _ w rfl rfl
@[go_sem] theorem cv24_28 (x : BitVec 32) (w : World) : (convert 24 28 (v32 x)).run Try.prog w = .ok (v64 (x.setWidth 64)) w := conv32_64 x _ _ _ w rfl rfl
@[go_sem] theorem cv26_5 (x : BitVec 64) (w : World) : (convert 26 5 (v64 x)).run Try.prog w = .ok (v8 (x.setWidth 8)) w := conv64_8 x _ _ _ w rfl rfl
@[go_sem] theorem cv26_12 (x : BitVec 64) (w : World) : (convert 26 12 (v64 x)).run Try.prog w = .ok (v64 x) w := conv64_64 x _ _ _ w rfl rfl
@[go_sem] theorem cv26_23 (x : BitVec 64) (w : World) : (convert 26 23 (v64 x)).run Try.prog w = .ok (v16 (x.setWidth 16)) w := conv64_16 x _ _ _ w rfl rfl
@[go_sem] theorem cv26_24 (x : BitVec 64) (w : World) : (convert 26 24 (v64 x)).run Try.prog w = .ok (v32 (x.setWidth 32)) w := conv64_32 x _ _ _ w rfl rfl
@[go_sem] theorem cv26_28 (x : BitVec 64) (w : World) : (convert 26 28 (v64 x)).run Try.prog w = .ok (v64 x) w := conv64_64 x _ _ _ w rfl rfl
@[go_sem] theorem cv28_5 (x : BitVec 64) (w : World) : (convert 28 5 (v64 x)).run Try.prog w = .ok (v8 (x.setWidth 8)) w := conv64_8 x _ _ _ w rfl rfl
@[go_sem] theorem cv28_12 (x : BitVec 64) (w : World) : (convert 28 12 (v64 x)).run Try.prog w = .ok (v64 x) w := conv64_64 x _ _ _ w rfl rfl
@[go_sem] theorem cv28_23 (x : BitVec 64) (w : World) : (convert 28 23 (v64 x)).run Try.prog w = .ok (v16 (x.setWidth 16)) w := conv64_16 x _ _ _ w rfl rfl
@[go_sem] theorem cv28_24 (x : BitVec 64) (w : World) : (convert 28 24 (v64 x)).run Try.prog w = .ok (v32 (x.setWidth 32)) w := conv64_32 x _ _ _ w rfl rfl
@[go_sem] theorem cv28_26 (x : BitVec 64) (w : World) : (convert 28 26 (v64 x)).run Try.prog w = .ok (v64 x) w := conv64_64 x _ _ _ w rfl rfl

end Go.Proofs.Ytmapcfhhklapbaa
