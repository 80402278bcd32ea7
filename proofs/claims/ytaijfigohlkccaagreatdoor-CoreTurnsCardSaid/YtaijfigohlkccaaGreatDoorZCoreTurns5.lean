/-
  The sizes and zeros of this program's types, and the conversions among its kinds of numbers, by the kernel. No conditions.
  The lowest bit of a number, and its half; a block of noughts, made. No conditions.
  The exclusive or of two blocks of sixteen bytes, plain. No conditions.
  Layer 10, plain: the field of 2^128 elements by the highest bit first, on lists of sixteen bytes: doubled, so many times, products, doubled so often. No program in sight, no conditions.
  Layer 10, plain: the document's way, polynomials coefficient by coefficient: products by x^128 = x^7 + x^2 + x + 1 are sums of doubles. No program in sight, no conditions.
-/
import Derived.Test.YtaijfigohlkccaaGreatDoorZCoreTurns0
import Derived.Test.YtaijfigohlkccaaGreatDoorZCoreTurns4
import Derived.Test.YtaijfigohlkccaaGreatDoorZCoreTurns3
set_option linter.unusedSimpArgs false
set_option linter.unusedVariables false
namespace Go.Proofs.YtaijfigohlkccaaGreatDoor
open Go Go.RowKit
set_option maxRecDepth 100000
instance : One1 Tryz.prog 1 := ⟨by kernel_rfl, by kernel_rfl⟩
instance : One1 Tryz.prog 2 := ⟨by kernel_rfl, by kernel_rfl⟩
instance : ZeroOf Tryz.prog 2 [.int .i64 0] := ⟨by kernel_rfl⟩
instance : One1 Tryz.prog 3 := ⟨by kernel_rfl, by kernel_rfl⟩
instance : ZeroOf Tryz.prog 3 [.int .i64 0] := ⟨by kernel_rfl⟩
instance : One1 Tryz.prog 4 := ⟨by kernel_rfl, by kernel_rfl⟩
instance : ZeroOf Tryz.prog 4 [.bool false] := ⟨by kernel_rfl⟩
instance : One1 Tryz.prog 5 := ⟨by kernel_rfl, by kernel_rfl⟩
instance : ZeroOf Tryz.prog 5 [v8 0#8] := ⟨by kernel_rfl⟩
instance : Many Tryz.prog 7 4 := ⟨by kernel_rfl, by kernel_rfl⟩
instance : ZeroOf Tryz.prog 7 ([.int .i64 0, .int .i64 0, .bool false, v8 0#8]) := ⟨by kernel_rfl⟩
instance : One1 Tryz.prog 9 := ⟨by kernel_rfl, by kernel_rfl⟩
instance : ZeroOf Tryz.prog 9 [.string ⟨#[]⟩] := ⟨by kernel_rfl⟩
instance : One1 Tryz.prog 12 := ⟨by kernel_rfl, by kernel_rfl⟩
instance : ZeroOf Tryz.prog 12 [v64 0#64] := ⟨by kernel_rfl⟩
instance : Many Tryz.prog 13 2 := ⟨by kernel_rfl, by kernel_rfl⟩
instance : ZeroOf Tryz.prog 13 ([.string ⟨#[]⟩, v64 0#64]) := ⟨by kernel_rfl⟩
instance : Many Tryz.prog 18 1 := ⟨by kernel_rfl, by kernel_rfl⟩
instance : ZeroOf Tryz.prog 18 ([.pointer none]) := ⟨by kernel_rfl⟩
instance : One1 Tryz.prog 20 := ⟨by kernel_rfl, by kernel_rfl⟩
instance : ZeroOf Tryz.prog 20 [.nilIface] := ⟨by kernel_rfl⟩
instance : One1 Tryz.prog 21 := ⟨by kernel_rfl, by kernel_rfl⟩
instance : ZeroOf Tryz.prog 21 [.int .i32 0] := ⟨by kernel_rfl⟩
instance : One1 Tryz.prog 22 := ⟨by kernel_rfl, by kernel_rfl⟩
instance : ZeroOf Tryz.prog 22 [.slice none 0 0] := ⟨by kernel_rfl⟩
instance : One1 Tryz.prog 23 := ⟨by kernel_rfl, by kernel_rfl⟩
instance : ZeroOf Tryz.prog 23 [.slice none 0 0] := ⟨by kernel_rfl⟩
instance : Many Tryz.prog 24 4 := ⟨by kernel_rfl, by kernel_rfl⟩
instance : ZeroOf Tryz.prog 24 ([.slice none 0 0, .slice none 0 0, .slice none 0 0, .bool false]) := ⟨by kernel_rfl⟩
instance : Many Tryz.prog 25 4 := ⟨by kernel_rfl, by kernel_rfl⟩
instance : ZeroOf Tryz.prog 25 ([.slice none 0 0, .slice none 0 0, .slice none 0 0, .bool false]) := ⟨by kernel_rfl⟩
instance : One1 Tryz.prog 26 := ⟨by kernel_rfl, by kernel_rfl⟩
instance : One1 Tryz.prog 27 := ⟨by kernel_rfl, by kernel_rfl⟩
instance : ZeroOf Tryz.prog 27 [.pointer none] := ⟨by kernel_rfl⟩
instance : One1 Tryz.prog 29 := ⟨by kernel_rfl, by kernel_rfl⟩
instance : One1 Tryz.prog 30 := ⟨by kernel_rfl, by kernel_rfl⟩
instance : ZeroOf Tryz.prog 30 [.int .i64 0] := ⟨by kernel_rfl⟩
instance : One1 Tryz.prog 32 := ⟨by kernel_rfl, by kernel_rfl⟩
instance : Many Tryz.prog 33 256 := ⟨by kernel_rfl, by kernel_rfl⟩
instance : ZeroOf Tryz.prog 33 ((zer (n := 8) 256).map v8) := ⟨by kernel_rfl⟩
instance : Many Tryz.prog 34 512 := ⟨by kernel_rfl, by kernel_rfl⟩
instance : ZeroOf Tryz.prog 34 ((zer (n := 8) 512).map v8) := ⟨by kernel_rfl⟩
instance : Many Tryz.prog 35 512 := ⟨by kernel_rfl, by kernel_rfl⟩
instance : ZeroOf Tryz.prog 35 ((zer (n := 8) 512).map v8) := ⟨by kernel_rfl⟩
instance : Many Tryz.prog 36 16 := ⟨by kernel_rfl, by kernel_rfl⟩
instance : ZeroOf Tryz.prog 36 ((zer (n := 8) 16).map v8) := ⟨by kernel_rfl⟩
instance : Many Tryz.prog 37 48 := ⟨by kernel_rfl, by kernel_rfl⟩
instance : ZeroOf Tryz.prog 37 ((zer (n := 8) 48).map v8) := ⟨by kernel_rfl⟩
instance : Many Tryz.prog 38 560 := ⟨by kernel_rfl, by kernel_rfl⟩
instance : ZeroOf Tryz.prog 38 ((zer (n := 8) 560).map v8) := ⟨by kernel_rfl⟩
instance : Many Tryz.prog 39 560 := ⟨by kernel_rfl, by kernel_rfl⟩
instance : ZeroOf Tryz.prog 39 ((zer (n := 8) 560).map v8) := ⟨by kernel_rfl⟩
instance : One1 Tryz.prog 40 := ⟨by kernel_rfl, by kernel_rfl⟩
instance : One1 Tryz.prog 41 := ⟨by kernel_rfl, by kernel_rfl⟩
instance : One1 Tryz.prog 42 := ⟨by kernel_rfl, by kernel_rfl⟩
instance : One1 Tryz.prog 43 := ⟨by kernel_rfl, by kernel_rfl⟩
instance : Many Tryz.prog 44 4 := ⟨by kernel_rfl, by kernel_rfl⟩
instance : ZeroOf Tryz.prog 44 ([.slice none 0 0, .slice none 0 0, .slice none 0 0, .bool false]) := ⟨by kernel_rfl⟩
instance : One1 Tryz.prog 45 := ⟨by kernel_rfl, by kernel_rfl⟩
instance : One1 Tryz.prog 46 := ⟨by kernel_rfl, by kernel_rfl⟩
instance : One1 Tryz.prog 47 := ⟨by kernel_rfl, by kernel_rfl⟩
instance : Many Tryz.prog 48 20 := ⟨by kernel_rfl, by kernel_rfl⟩
instance : ZeroOf Tryz.prog 48 ([.slice none 0 0] ++ ((zer (n := 8) 16).map v8) ++ [.int .i64 0, .int .i64 0, .slice none 0 0]) := ⟨by kernel_rfl⟩
instance : Many Tryz.prog 49 20 := ⟨by kernel_rfl, by kernel_rfl⟩
instance : ZeroOf Tryz.prog 49 ([.slice none 0 0] ++ ((zer (n := 8) 16).map v8) ++ [.int .i64 0, .int .i64 0, .slice none 0 0]) := ⟨by kernel_rfl⟩
instance : One1 Tryz.prog 50 := ⟨by kernel_rfl, by kernel_rfl⟩
instance : One1 Tryz.prog 51 := ⟨by kernel_rfl, by kernel_rfl⟩
instance : One1 Tryz.prog 52 := ⟨by kernel_rfl, by kernel_rfl⟩
instance : One1 Tryz.prog 53 := ⟨by kernel_rfl, by kernel_rfl⟩
instance : One1 Tryz.prog 54 := ⟨by kernel_rfl, by kernel_rfl⟩
instance : One1 Tryz.prog 55 := ⟨by kernel_rfl, by kernel_rfl⟩
instance : One1 Tryz.prog 57 := ⟨by kernel_rfl, by kernel_rfl⟩
instance : One1 Tryz.prog 58 := ⟨by kernel_rfl, by kernel_rfl⟩
instance : ZeroOf Tryz.prog 58 [.pointer none] := ⟨by kernel_rfl⟩
instance : One1 Tryz.prog 59 := ⟨by kernel_rfl, by kernel_rfl⟩
instance : One1 Tryz.prog 60 := ⟨by kernel_rfl, by kernel_rfl⟩
instance : ZeroOf Tryz.prog 60 [.pointer none] := ⟨by kernel_rfl⟩
instance : One1 Tryz.prog 61 := ⟨by kernel_rfl, by kernel_rfl⟩
instance : One1 Tryz.prog 62 := ⟨by kernel_rfl, by kernel_rfl⟩
instance : One1 Tryz.prog 63 := ⟨by kernel_rfl, by kernel_rfl⟩
instance : ZeroOf Tryz.prog 63 [.slice none 0 0] := ⟨by kernel_rfl⟩
instance : Many Tryz.prog 64 35 := ⟨by kernel_rfl, by kernel_rfl⟩
instance : ZeroOf Tryz.prog 64 ([.slice none 0 0, .slice none 0 0, .slice none 0 0] ++ ((zer (n := 8) 32).map v8)) := ⟨by kernel_rfl⟩
instance : Many Tryz.prog 65 35 := ⟨by kernel_rfl, by kernel_rfl⟩
instance : ZeroOf Tryz.prog 65 ([.slice none 0 0, .slice none 0 0, .slice none 0 0] ++ ((zer (n := 8) 32).map v8)) := ⟨by kernel_rfl⟩
instance : One1 Tryz.prog 66 := ⟨by kernel_rfl, by kernel_rfl⟩
instance : One1 Tryz.prog 67 := ⟨by kernel_rfl, by kernel_rfl⟩
instance : One1 Tryz.prog 68 := ⟨by kernel_rfl, by kernel_rfl⟩
instance : One1 Tryz.prog 69 := ⟨by kernel_rfl, by kernel_rfl⟩
instance : One1 Tryz.prog 70 := ⟨by kernel_rfl, by kernel_rfl⟩
instance : One1 Tryz.prog 71 := ⟨by kernel_rfl, by kernel_rfl⟩
instance : One1 Tryz.prog 72 := ⟨by kernel_rfl, by kernel_rfl⟩
instance : One1 Tryz.prog 74 := ⟨by kernel_rfl, by kernel_rfl⟩
instance : One1 Tryz.prog 75 := ⟨by kernel_rfl, by kernel_rfl⟩
instance : One1 Tryz.prog 76 := ⟨by kernel_rfl, by kernel_rfl⟩
instance : One1 Tryz.prog 77 := ⟨by kernel_rfl, by kernel_rfl⟩
instance : One1 Tryz.prog 78 := ⟨by kernel_rfl, by kernel_rfl⟩
instance : ZeroOf Tryz.prog 78 [.slice none 0 0] := ⟨by kernel_rfl⟩
instance : One1 Tryz.prog 80 := ⟨by kernel_rfl, by kernel_rfl⟩
instance : One1 Tryz.prog 81 := ⟨by kernel_rfl, by kernel_rfl⟩
instance : ZeroOf Tryz.prog 81 [.slice none 0 0] := ⟨by kernel_rfl⟩
instance : One1 Tryz.prog 82 := ⟨by kernel_rfl, by kernel_rfl⟩
instance : One1 Tryz.prog 83 := ⟨by kernel_rfl, by kernel_rfl⟩
instance : Many Tryz.prog 84 3 := ⟨by kernel_rfl, by kernel_rfl⟩
instance : ZeroOf Tryz.prog 84 ([.int .i64 0, .int .i64 0, .int .i64 0]) := ⟨by kernel_rfl⟩
instance : Many Tryz.prog 85 3 := ⟨by kernel_rfl, by kernel_rfl⟩
instance : ZeroOf Tryz.prog 85 ([.int .i64 0, .int .i64 0, .int .i64 0]) := ⟨by kernel_rfl⟩
instance : One1 Tryz.prog 86 := ⟨by kernel_rfl, by kernel_rfl⟩
instance : One1 Tryz.prog 87 := ⟨by kernel_rfl, by kernel_rfl⟩
instance : Many Tryz.prog 88 2 := ⟨by kernel_rfl, by kernel_rfl⟩
instance : ZeroOf Tryz.prog 88 ([.slice none 0 0, .slice none 0 0]) := ⟨by kernel_rfl⟩
instance : One1 Tryz.prog 89 := ⟨by kernel_rfl, by kernel_rfl⟩
instance : One1 Tryz.prog 90 := ⟨by kernel_rfl, by kernel_rfl⟩
instance : One1 Tryz.prog 91 := ⟨by kernel_rfl, by kernel_rfl⟩
instance : ZeroOf Tryz.prog 91 [.slice none 0 0] := ⟨by kernel_rfl⟩
instance : One1 Tryz.prog 92 := ⟨by kernel_rfl, by kernel_rfl⟩
instance : One1 Tryz.prog 94 := ⟨by kernel_rfl, by kernel_rfl⟩
instance : One1 Tryz.prog 97 := ⟨by kernel_rfl, by kernel_rfl⟩
instance : ZeroOf Tryz.prog 97 [v64 0#64] := ⟨by kernel_rfl⟩
instance : One1 Tryz.prog 98 := ⟨by kernel_rfl, by kernel_rfl⟩
instance : Many Tryz.prog 99 49 := ⟨by kernel_rfl, by kernel_rfl⟩
instance : ZeroOf Tryz.prog 99 ([.pointer none] ++ ((zer (n := 8) 48).map v8)) := ⟨by kernel_rfl⟩
instance : Many Tryz.prog 100 49 := ⟨by kernel_rfl, by kernel_rfl⟩
instance : ZeroOf Tryz.prog 100 ([.pointer none] ++ ((zer (n := 8) 48).map v8)) := ⟨by kernel_rfl⟩
instance : One1 Tryz.prog 101 := ⟨by kernel_rfl, by kernel_rfl⟩
instance : ZeroOf Tryz.prog 101 [v32 0#32] := ⟨by kernel_rfl⟩
instance : Many Tryz.prog 102 256 := ⟨by kernel_rfl, by kernel_rfl⟩
instance : ZeroOf Tryz.prog 102 ((zer (n := 32) 256).map v32) := ⟨by kernel_rfl⟩
instance : Many Tryz.prog 103 1024 := ⟨by kernel_rfl, by kernel_rfl⟩
instance : ZeroOf Tryz.prog 103 ((zer (n := 32) 1024).map v32) := ⟨by kernel_rfl⟩
instance : Many Tryz.prog 104 2049 := ⟨by kernel_rfl, by kernel_rfl⟩
instance : ZeroOf Tryz.prog 104 ([.pointer none] ++ ((zer (n := 32) 2048).map v32)) := ⟨by kernel_rfl⟩
instance : Many Tryz.prog 105 2049 := ⟨by kernel_rfl, by kernel_rfl⟩
instance : ZeroOf Tryz.prog 105 ([.pointer none] ++ ((zer (n := 32) 2048).map v32)) := ⟨by kernel_rfl⟩
instance : One1 Tryz.prog 106 := ⟨by kernel_rfl, by kernel_rfl⟩
instance : Many Tryz.prog 107 4 := ⟨by kernel_rfl, by kernel_rfl⟩
instance : ZeroOf Tryz.prog 107 ((zer (n := 8) 4).map v8) := ⟨by kernel_rfl⟩
instance : One1 Tryz.prog 108 := ⟨by kernel_rfl, by kernel_rfl⟩
instance : Many Tryz.prog 109 255 := ⟨by kernel_rfl, by kernel_rfl⟩
instance : ZeroOf Tryz.prog 109 ((zer (n := 8) 255).map v8) := ⟨by kernel_rfl⟩
instance : Many Tryz.prog 110 512 := ⟨by kernel_rfl, by kernel_rfl⟩
instance : ZeroOf Tryz.prog 110 ((zer (n := 8) 512).map v8) := ⟨by kernel_rfl⟩
instance : Many Tryz.prog 111 512 := ⟨by kernel_rfl, by kernel_rfl⟩
instance : ZeroOf Tryz.prog 111 ((zer (n := 8) 512).map v8) := ⟨by kernel_rfl⟩
instance : One1 Tryz.prog 112 := ⟨by kernel_rfl, by kernel_rfl⟩
instance : One1 Tryz.prog 113 := ⟨by kernel_rfl, by kernel_rfl⟩
instance : One1 Tryz.prog 114 := ⟨by kernel_rfl, by kernel_rfl⟩
instance : One1 Tryz.prog 115 := ⟨by kernel_rfl, by kernel_rfl⟩
instance : One1 Tryz.prog 116 := ⟨by kernel_rfl, by kernel_rfl⟩
instance : One1 Tryz.prog 117 := ⟨by kernel_rfl, by kernel_rfl⟩
instance : Many Tryz.prog 118 32 := ⟨by kernel_rfl, by kernel_rfl⟩
instance : ZeroOf Tryz.prog 118 ((zer (n := 8) 32).map v8) := ⟨by kernel_rfl⟩
instance : One1 Tryz.prog 119 := ⟨by kernel_rfl, by kernel_rfl⟩
instance : One1 Tryz.prog 120 := ⟨by kernel_rfl, by kernel_rfl⟩
instance : One1 Tryz.prog 121 := ⟨by kernel_rfl, by kernel_rfl⟩
instance : One1 Tryz.prog 122 := ⟨by kernel_rfl, by kernel_rfl⟩
instance : One1 Tryz.prog 123 := ⟨by kernel_rfl, by kernel_rfl⟩
instance : ZeroOf Tryz.prog 123 [v64 0#64] := ⟨by kernel_rfl⟩
instance : Many Tryz.prog 124 8 := ⟨by kernel_rfl, by kernel_rfl⟩
instance : ZeroOf Tryz.prog 124 ((zer (n := 64) 8).map v64) := ⟨by kernel_rfl⟩
instance : One1 Tryz.prog 125 := ⟨by kernel_rfl, by kernel_rfl⟩
instance : One1 Tryz.prog 126 := ⟨by kernel_rfl, by kernel_rfl⟩
instance : One1 Tryz.prog 127 := ⟨by kernel_rfl, by kernel_rfl⟩
instance : One1 Tryz.prog 128 := ⟨by kernel_rfl, by kernel_rfl⟩
instance : One1 Tryz.prog 129 := ⟨by kernel_rfl, by kernel_rfl⟩
instance : One1 Tryz.prog 130 := ⟨by kernel_rfl, by kernel_rfl⟩
instance : One1 Tryz.prog 131 := ⟨by kernel_rfl, by kernel_rfl⟩
instance : One1 Tryz.prog 132 := ⟨by kernel_rfl, by kernel_rfl⟩
instance : Many Tryz.prog 133 8 := ⟨by kernel_rfl, by kernel_rfl⟩
instance : ZeroOf Tryz.prog 133 ((zer (n := 8) 8).map v8) := ⟨by kernel_rfl⟩
instance : One1 Tryz.prog 134 := ⟨by kernel_rfl, by kernel_rfl⟩
instance : One1 Tryz.prog 136 := ⟨by kernel_rfl, by kernel_rfl⟩
instance : One1 Tryz.prog 137 := ⟨by kernel_rfl, by kernel_rfl⟩
instance : ZeroOf Tryz.prog 137 [.pointer none] := ⟨by kernel_rfl⟩
instance : One1 Tryz.prog 139 := ⟨by kernel_rfl, by kernel_rfl⟩
instance : One1 Tryz.prog 140 := ⟨by kernel_rfl, by kernel_rfl⟩
instance : One1 Tryz.prog 141 := ⟨by kernel_rfl, by kernel_rfl⟩
instance : One1 Tryz.prog 142 := ⟨by kernel_rfl, by kernel_rfl⟩
instance : One1 Tryz.prog 143 := ⟨by kernel_rfl, by kernel_rfl⟩
instance : One1 Tryz.prog 144 := ⟨by kernel_rfl, by kernel_rfl⟩
instance : One1 Tryz.prog 145 := ⟨by kernel_rfl, by kernel_rfl⟩
instance : One1 Tryz.prog 146 := ⟨by kernel_rfl, by kernel_rfl⟩
instance : Many Tryz.prog 147 16 := ⟨by kernel_rfl, by kernel_rfl⟩
instance : ZeroOf Tryz.prog 147 ((zer (n := 64) 16).map v64) := ⟨by kernel_rfl⟩
instance : One1 Tryz.prog 148 := ⟨by kernel_rfl, by kernel_rfl⟩
instance : Many Tryz.prog 149 16 := ⟨by kernel_rfl, by kernel_rfl⟩
instance : ZeroOf Tryz.prog 149 ([.int .i64 0, .int .i64 0, .int .i64 0, .int .i64 0, .int .i64 0, .int .i64 0, .int .i64 0, .int .i64 0, .int .i64 0, .int .i64 0, .int .i64 0, .int .i64 0, .int .i64 0, .int .i64 0, .int .i64 0, .int .i64 0]) := ⟨by kernel_rfl⟩
instance : One1 Tryz.prog 150 := ⟨by kernel_rfl, by kernel_rfl⟩
instance : One1 Tryz.prog 151 := ⟨by kernel_rfl, by kernel_rfl⟩
instance : One1 Tryz.prog 152 := ⟨by kernel_rfl, by kernel_rfl⟩
instance : Many Tryz.prog 153 256 := ⟨by kernel_rfl, by kernel_rfl⟩
instance : ZeroOf Tryz.prog 153 ((zer (n := 8) 256).map v8) := ⟨by kernel_rfl⟩
instance : One1 Tryz.prog 154 := ⟨by kernel_rfl, by kernel_rfl⟩
instance : One1 Tryz.prog 155 := ⟨by kernel_rfl, by kernel_rfl⟩
instance : One1 Tryz.prog 156 := ⟨by kernel_rfl, by kernel_rfl⟩
instance : One1 Tryz.prog 157 := ⟨by kernel_rfl, by kernel_rfl⟩
instance : Many Tryz.prog 158 2 := ⟨by kernel_rfl, by kernel_rfl⟩
instance : ZeroOf Tryz.prog 158 ([v64 0#64, v64 0#64]) := ⟨by kernel_rfl⟩
instance : Many Tryz.prog 159 2 := ⟨by kernel_rfl, by kernel_rfl⟩
instance : ZeroOf Tryz.prog 159 ([v64 0#64, v64 0#64]) := ⟨by kernel_rfl⟩
instance : Many Tryz.prog 160 12 := ⟨by kernel_rfl, by kernel_rfl⟩
instance : ZeroOf Tryz.prog 160 (((zer (n := 64) 10).map v64) ++ [.slice none 0 0, .int .i64 0]) := ⟨by kernel_rfl⟩
instance : Many Tryz.prog 161 12 := ⟨by kernel_rfl, by kernel_rfl⟩
instance : ZeroOf Tryz.prog 161 (((zer (n := 64) 10).map v64) ++ [.slice none 0 0, .int .i64 0]) := ⟨by kernel_rfl⟩
instance : One1 Tryz.prog 162 := ⟨by kernel_rfl, by kernel_rfl⟩
instance : One1 Tryz.prog 163 := ⟨by kernel_rfl, by kernel_rfl⟩
instance : One1 Tryz.prog 164 := ⟨by kernel_rfl, by kernel_rfl⟩
instance : One1 Tryz.prog 165 := ⟨by kernel_rfl, by kernel_rfl⟩
instance : One1 Tryz.prog 166 := ⟨by kernel_rfl, by kernel_rfl⟩
instance : One1 Tryz.prog 167 := ⟨by kernel_rfl, by kernel_rfl⟩
instance : One1 Tryz.prog 168 := ⟨by kernel_rfl, by kernel_rfl⟩
instance : One1 Tryz.prog 169 := ⟨by kernel_rfl, by kernel_rfl⟩
instance : Many Tryz.prog 170 128 := ⟨by kernel_rfl, by kernel_rfl⟩
instance : ZeroOf Tryz.prog 170 ((zer (n := 8) 128).map v8) := ⟨by kernel_rfl⟩
instance : One1 Tryz.prog 171 := ⟨by kernel_rfl, by kernel_rfl⟩
instance : One1 Tryz.prog 172 := ⟨by kernel_rfl, by kernel_rfl⟩
instance : One1 Tryz.prog 173 := ⟨by kernel_rfl, by kernel_rfl⟩
instance : One1 Tryz.prog 174 := ⟨by kernel_rfl, by kernel_rfl⟩
instance : One1 Tryz.prog 175 := ⟨by kernel_rfl, by kernel_rfl⟩
instance : One1 Tryz.prog 177 := ⟨by kernel_rfl, by kernel_rfl⟩
instance : One1 Tryz.prog 178 := ⟨by kernel_rfl, by kernel_rfl⟩
instance : Many Tryz.prog 179 160 := ⟨by kernel_rfl, by kernel_rfl⟩
instance : ZeroOf Tryz.prog 179 ((zer (n := 8) 160).map v8) := ⟨by kernel_rfl⟩
instance : One1 Tryz.prog 180 := ⟨by kernel_rfl, by kernel_rfl⟩
instance : One1 Tryz.prog 181 := ⟨by kernel_rfl, by kernel_rfl⟩
instance : ZeroOf Tryz.prog 181 [.pointer none] := ⟨by kernel_rfl⟩
instance : One1 Tryz.prog 182 := ⟨by kernel_rfl, by kernel_rfl⟩
instance : One1 Tryz.prog 183 := ⟨by kernel_rfl, by kernel_rfl⟩
instance : One1 Tryz.prog 184 := ⟨by kernel_rfl, by kernel_rfl⟩
instance : Many Tryz.prog 185 4 := ⟨by kernel_rfl, by kernel_rfl⟩
instance : ZeroOf Tryz.prog 185 ([.pointer none, .pointer none, .pointer none, .string ⟨#[]⟩]) := ⟨by kernel_rfl⟩
instance : Many Tryz.prog 188 0 := ⟨by kernel_rfl, by kernel_rfl⟩
instance : ZeroOf Tryz.prog 188 ([]) := ⟨by kernel_rfl⟩
instance : One1 Tryz.prog 190 := ⟨by kernel_rfl, by kernel_rfl⟩
instance : One1 Tryz.prog 193 := ⟨by kernel_rfl, by kernel_rfl⟩
instance : One1 Tryz.prog 194 := ⟨by kernel_rfl, by kernel_rfl⟩
instance : ZeroOf Tryz.prog 194 [.pointer none] := ⟨by kernel_rfl⟩
instance : Many Tryz.prog 197 11 := ⟨by kernel_rfl, by kernel_rfl⟩
instance : ZeroOf Tryz.prog 197 ([v64 0#64, v64 0#64, v32 0#32] ++ ((zer (n := 8) 4).map v8) ++ [.nilFunc, .pointer none, .int .i32 0, .int .i32 0]) := ⟨by kernel_rfl⟩
instance : One1 Tryz.prog 199 := ⟨by kernel_rfl, by kernel_rfl⟩
@[go_sem] theorem cv2_5 (n : Int) (w : World) : (convert 2 5 (.int .i64 n)).run Tryz.prog w = .ok (v8 (BitVec.ofInt 8 n)) w := conv_int8 n _ _ _ _ w rfl rfl
@[go_sem] theorem cv2_12 (n : Int) (w : World) : (convert 2 12 (.int .i64 n)).run Tryz.prog w = .ok (v64 (BitVec.ofInt 64 n)) w := conv_int64 n _ _ _ _ w rfl rfl
@[go_sem] theorem cv2_97 (n : Int) (w : World) : (convert 2 97 (.int .i64 n)).run Tryz.prog w = .ok (v64 (BitVec.ofInt 64 n)) w := conv_int64 n _ _ _ _ w rfl rfl
@[go_sem] theorem cv2_101 (n : Int) (w : World) : (convert 2 101 (.int .i64 n)).run Tryz.prog w = .ok (v32 (BitVec.ofInt 32 n)) w := conv_int32 n _ _ _ _ w rfl rfl
@[go_sem] theorem cv2_123 (n : Int) (w : World) : (convert 2 123 (.int .i64 n)).run Tryz.prog w = .ok (v64 (BitVec.ofInt 64 n)) w := conv_int64 n _ _ _ _ w rfl rfl
@[go_sem] theorem cv3_5 (n : Int) (w : World) : (convert 3 5 (.int .i64 n)).run Tryz.prog w = .ok (v8 (BitVec.ofInt 8 n)) w := conv_int8 n _ _ _ _ w rfl rfl
@[go_sem] theorem cv3_12 (n : Int) (w : World) : (convert 3 12 (.int .i64 n)).run Tryz.prog w = .ok (v64 (BitVec.ofInt 64 n)) w := conv_int64 n _ _ _ _ w rfl rfl
@[go_sem] theorem cv3_97 (n : Int) (w : World) : (convert 3 97 (.int .i64 n)).run Tryz.prog w = .ok (v64 (BitVec.ofInt 64 n)) w := conv_int64 n _ _ _ _ w rfl rfl
@[go_sem] theorem cv3_101 (n : Int) (w : World) : (convert 3 101 (.int .i64 n)).run Tryz.prog w = .ok (v32 (BitVec.ofInt 32 n)) w := conv_int32 n _ _ _ _ w rfl rfl
@[go_sem] theorem cv3_123 (n : Int) (w : World) : (convert 3 123 (.int .i64 n)).run Tryz.prog w = .ok (v64 (BitVec.ofInt 64 n)) w := conv_int64 n _ _ _ _ w rfl rfl
@[go_sem] theorem cv5_2 (x : BitVec 8) (w : World) : (convert 5 2 (v8 x)).run Tryz.prog w = .ok (.int .i64 x.toNat) w := conv8_i64 x _ _ _ w rfl rfl
@[go_sem] theorem cv5_3 (x : BitVec 8) (w : World) : (convert 5 3 (v8 x)).run Tryz.prog w = .ok (.int .i64 x.toNat) w := conv8_i64 x _ _ _ w rfl rfl
@[go_sem] theorem cv5_12 (x : BitVec 8) (w : World) : (convert 5 12 (v8 x)).run Tryz.prog w = .ok (v64 (x.setWidth 64)) w := conv8_64 x _ _ _ w rfl rfl
@[go_sem] theorem cv5_30 (x : BitVec 8) (w : World) : (convert 5 30 (v8 x)).run Tryz.prog w = .ok (.int .i64 x.toNat) w := conv8_i64 x _ _ _ w rfl rfl
@[go_sem] theorem cv5_97 (x : BitVec 8) (w : World) : (convert 5 97 (v8 x)).run Tryz.prog w = .ok (v64 (x.setWidth 64)) w := conv8_64 x _ _ _ w rfl rfl
@[go_sem] theorem cv5_101 (x : BitVec 8) (w : World) : (convert 5 101 (v8 x)).run Tryz.prog w = .ok (v32 (x.setWidth 32)) w := conv8_32 x _ _ _ w rfl rfl
@[go_sem] theorem cv5_123 (x : BitVec 8) (w : World) : (convert 5 123 (v8 x)).run Tryz.prog w = .ok (v64 (x.setWidth 64)) w := conv8_64 x _ _ _ w rfl rfl
@[go_sem] theorem cv12_5 (x : BitVec 64) (w : World) : (convert 12 5 (v64 x)).run Tryz.prog w = .ok (v8 (x.setWidth 8)) w := conv64_8 x _ _ _ w rfl rfl
@[go_sem] theorem cv12_97 (x : BitVec 64) (w : World) : (convert 12 97 (v64 x)).run Tryz.prog w = .ok (v64 x) w := conv64_64 x _ _ _ w rfl rfl
@[go_sem] theorem cv12_101 (x : BitVec 64) (w : World) : (convert 12 101 (v64 x)).run Tryz.prog w = .ok (v32 (x.setWidth 32)) w := conv64_32 x _ _ _ w rfl rfl
@[go_sem] theorem cv12_123 (x : BitVec 64) (w : World) : (convert 12 123 (v64 x)).run Tryz.prog w = .ok (v64 x) w := conv64_64 x _ _ _ w rfl rfl
@[go_sem] theorem cv30_5 (n : Int) (w : World) : (convert 30 5 (.int .i64 n)).run Tryz.prog w = .ok (v8 (BitVec.ofInt 8 n)) w := conv_int8 n _ _ _ _ w rfl rfl
@[go_sem] theorem cv30_12 (n : Int) (w : World) : (convert 30 12 (.int .i64 n)).run Tryz.prog w = .ok (v64 (BitVec.ofInt 64 n)) w := conv_int64 n _ _ _ _ w rfl rfl
@[go_sem] theorem cv30_97 (n : Int) (w : World) : (convert 30 97 (.int .i64 n)).run Tryz.prog w = .ok (v64 (BitVec.ofInt 64 n)) w := conv_int64 n _ _ _ _ w rfl rfl
@[go_sem] theorem cv30_101 (n : Int) (w : World) : (convert 30 101 (.int .i64 n)).run Tryz.prog w = .ok (v32 (BitVec.ofInt 32 n)) w := conv_int32 n _ _ _ _ w rfl rfl
@[go_sem] theorem cv30_123 (n : Int) (w : World) : (convert 30 123 (.int .i64 n)).run Tryz.prog w = .ok (v64 (BitVec.ofInt 64 n)) w := conv_int64 n _ _ _ _ w rfl rfl
@[go_sem] theorem cv97_5 (x : BitVec 64) (w : World) : (convert 97 5 (v64 x)).run Tryz.prog w = .ok (v8 (x.setWidth 8)) w := conv64_8 x _ _ _ w rfl rfl
@[go_sem] theorem cv97_12 (x : BitVec 64) (w : World) : (convert 97 12 (v64 x)).run Tryz.prog w = .ok (v64 x) w := conv64_64 x _ _ _ w rfl rfl
@[go_sem] theorem cv97_101 (x : BitVec 64) (w : World) : (convert 97 101 (v64 x)).run Tryz.prog w = .ok (v32 (x.setWidth 32)) w := conv64_32 x _ _ _ w rfl rfl
@[go_sem] theorem cv97_123 (x : BitVec 64) (w : World) : (convert 97 123 (v64 x)).run Tryz.prog w = .ok (v64 x) w := conv64_64 x _ _ _ w rfl rfl
@[go_sem] theorem cv101_2 (x : BitVec 32) (w : World) : (convert 101 2 (v32 x)).run Tryz.prog w = .ok (.int .i64 x.toNat) w := conv32_i64 x _ _ _ w rfl rfl
@[go_sem] theorem cv101_3 (x : BitVec 32) (w : World) : (convert 101 3 (v32 x)).run Tryz.prog w = .ok (.int .i64 x.toNat) w := conv32_i64 x _ _ _ w rfl rfl
@[go_sem] theorem cv101_5 (x : BitVec 32) (w : World) : (convert 101 5 (v32 x)).run Tryz.prog w = .ok (v8 (x.setWidth 8)) w := conv32_8 x _ _ _ w rfl rfl
@[go_sem] theorem cv101_12 (x : BitVec 32) (w : World) : (convert 101 12 (v32 x)).run Tryz.prog w = .ok (v64 (x.setWidth 64)) w := conv32_64 x _ _ _ w rfl rfl
@[go_sem] theorem cv101_30 (x : BitVec 32) (w : World) : (convert 101 30 (v32 x)).run Tryz.prog w = .ok (.int .i64 x.toNat) w := conv32_i64 x _ _ _ w rfl rfl
@[go_sem] theorem cv101_97 (x : BitVec 32) (w : World) : (convert 101 97 (v32 x)).run Tryz.prog w = .ok (v64 (x.setWidth 64)) w := conv32_64 x _ _ _ w rfl rfl
@[go_sem] theorem cv101_123 (x : BitVec 32) (w : World) : (convert 101 123 (v32 x)).run Tryz.prog w = .ok (v64 (x.setWidth 64)) w := conv32_64 x _ _ _ w rfl rfl
@[go_sem] theorem cv123_5 (x : BitVec 64) (w : World) : (convert 123 5 (v64 x)).run Tryz.prog w = .ok (v8 (x.setWidth 8)) w := conv64_8 x _ _ _ w rfl rfl
@[go_sem] theorem cv123_12 (x : BitVec 64) (w : World) : (convert 123 12 (v64 x)).run Tryz.prog w = .ok (v64 x) w := conv64_64 x _ _ _ w rfl rfl
@[go_sem] theorem cv123_97 (x : BitVec 64) (w : World) : (convert 123 97 (v64 x)).run Tryz.prog w = .ok (v64 x) w := conv64_64 x _ _ _ w rfl rfl
@[go_sem] theorem cv123_101 (x : BitVec 64) (w : World) : (convert 123 101 (v64 x)).run Tryz.prog w = .ok (v32 (x.setWidth 32)) w := conv64_32 x _ _ _ w rfl rfl
end Go.Proofs.YtaijfigohlkccaaGreatDoor
namespace Go.Proofs.YtaijfigohlkccaaGreatDoor
open Go Go.RowKit
set_option maxRecDepth 100000
@[go_sem] theorem and1_nat (t : TypeId) (N : Nat) : binOp .and t (.int .i64 (N : Int)) (.int .i64 1) = pure (.int .i64 ((N % 2 : Nat) : Int)) := by
 rw [binOp_and]
 show pure (Value.int .i64 (IntKind.i64.wrap ((BitVec.ofInt 64 (N : Int) &&& BitVec.ofInt 64 1).toNat : Nat))) = _
 have e : (BitVec.ofInt 64 (N : Int) &&& BitVec.ofInt 64 1).toNat = N % 2 := by
   rw [ofInt_nat', show BitVec.ofInt 64 1 = 1#64 from by decide, BitVec.toNat_and]
   simp only [BitVec.toNat_ofNat, show (1 % 2 ^ 64) = 1 from by decide, Nat.and_one_is_mod]
   omega
 rw [e, IntWalk.i64_in _ (by omega)]
theorem bits_and1 (N : Nat) : bits .and .i64 (N : Int) 1 = ((N % 2 : Nat) : Int) := by
 show IntKind.i64.wrap ((BitVec.ofInt 64 (N : Int) &&& BitVec.ofInt 64 1).toNat : Nat) = _
 have e : (BitVec.ofInt 64 (N : Int) &&& BitVec.ofInt 64 1).toNat = N % 2 := by
   rw [ofInt_nat', show BitVec.ofInt 64 1 = 1#64 from by decide, BitVec.toNat_and]
   simp only [BitVec.toNat_ofNat, show (1 % 2 ^ 64) = 1 from by decide, Nat.and_one_is_mod]
   omega
 rw [e, IntWalk.i64_in _ (by omega)]
@[go_sem] theorem shr1_nat (t : TypeId) (N : Nat) : binOp .shr t (.int .i64 (N : Int)) (.int .u64 1) = pure (.int .i64 ((N / 2 : Nat) : Int)) := by
 simp only [binOp_shr, Op.shift]
 have : ((N : Int).fdiv (2 ^ (min (1 : Int).toNat IntKind.i64.bits))) = ((N / 2 : Nat) : Int) := by
   rw [show min (1 : Int).toNat IntKind.i64.bits = 1 from by decide, Int.fdiv_eq_ediv_of_nonneg _ (by decide)]; omega
 rw [this]; rfl
theorem build_z16 (w : World) : (Instr.build 36 #[]).run Tryz.prog w = .ok (A8 (zer 16)) w := by kernel_rfl
end Go.Proofs.YtaijfigohlkccaaGreatDoor
namespace Go.Proofs.YtaijfigohlkccaaGreatDoor
open Go
def bothL (a b : List Byte) : List Byte := tab 16 fun i => nth a i ^^^ nth b i
theorem bothL_length (a b : List Byte) : (bothL a b).length = 16 := tab_length
theorem bothL_nth (a b : List Byte) (i : Nat) (h : i < 16) : nth (bothL a b) i = nth a i ^^^ nth b i := nth_tab h
end Go.Proofs.YtaijfigohlkccaaGreatDoor
namespace Go.Proofs.YtaijfigohlkccaaGreatDoor
open Go
theorem both_zero (a : List Byte) (h : a.length = 16) : bothL a (zer 16) = a := nth_ext (by rw [bothL_length, h]) fun i hi => by
 rw [bothL_length] at hi
 rw [bothL_nth _ _ _ hi, zer, nth_tab hi]; simp
theorem both_comm (a b : List Byte) : bothL a b = bothL b a := nth_ext (by simp [bothL_length]) fun i hi => by
 rw [bothL_length] at hi
 rw [bothL_nth _ _ _ hi, bothL_nth _ _ _ hi, BitVec.xor_comm]
theorem both_assoc (a b c : List Byte) : bothL (bothL a b) c = bothL a (bothL b c) := nth_ext (by simp [bothL_length]) fun i hi => by
 rw [bothL_length] at hi
 rw [bothL_nth _ _ _ hi, bothL_nth _ _ _ hi, bothL_nth _ _ _ hi, bothL_nth _ _ _ hi, BitVec.xor_assoc]
theorem zero_both (a : List Byte) (h : a.length = 16) : bothL (zer 16) a = a := by rw [both_comm, both_zero a h]
theorem both_self (a : List Byte) : bothL a a = zer 16 := nth_ext (by rw [bothL_length, zer_length]) fun i hi => by
 rw [bothL_length] at hi
 rw [bothL_nth _ _ _ hi, zer, nth_tab hi]; simp
theorem both_four (a b c d : List Byte) : bothL (bothL a b) (bothL c d) = bothL (bothL a c) (bothL b d) := by
 rw [both_assoc, both_assoc, ← both_assoc b c d, both_comm b c, both_assoc c b d]
def dblF (a : List Byte) (i : Nat) : Byte := if i < 15 then (nth a i <<< 1) ||| (nth a (i + 1) >>> 7) else (nth a 15 <<< 1) ^^^ ((nth a 0 >>> 7) * 135#8)
def dblL (a : List Byte) : List Byte := tab 16 (dblF a)
theorem dblL_length (a : List Byte) : (dblL a).length = 16 := tab_length
def dblN (a : List Byte) : Nat → List Byte
 | 0 => a
 | n + 1 => dblL (dblN a n)
theorem dblN_length (a : List Byte) (h : a.length = 16) : ∀ n, (dblN a n).length = 16
 | 0 => h
 | _ + 1 => dblL_length _
theorem dblN_add (a : List Byte) (m : Nat) : ∀ n, dblN a (m + n) = dblN (dblN a m) n
 | 0 => rfl
 | n + 1 => by rw [← Nat.add_assoc, dblN, dblN_add a m n]; rfl
def bitA (a : List Byte) (i : Nat) : Bool := (nth a (15 - i / 8)).getLsbD (i % 8)
theorem bits_ext {a b : List Byte} (ha : a.length = 16) (hb : b.length = 16) (h : ∀ i, i < 128 → bitA a i = bitA b i) : a = b := nth_ext (by rw [ha, hb]) fun k hk => by
 rw [ha] at hk
 apply BitVec.eq_of_getLsbD_eq
 intro r hr
 have := h (8 * (15 - k) + r) (by omega)
 unfold bitA at this
 rwa [show (8 * (15 - k) + r) / 8 = 15 - k from by omega, show (8 * (15 - k) + r) % 8 = r from by omega, show 15 - (15 - k) = k from by omega] at this
theorem bit_both (a b : List Byte) (i : Nat) : bitA (bothL a b) i = (bitA a i ^^ bitA b i) := by
 unfold bitA; rw [bothL_nth _ _ _ (by omega), BitVec.getLsbD_xor]
theorem bit_zer (i : Nat) : bitA (zer 16) i = false := by unfold bitA; rw [zer, nth_tab (by omega)]; simp
def spec (i : Nat) : Bool := i == 0 || i == 1 || i == 2 || i == 7
theorem spec_bits : ∀ (b : Byte) (r : Fin 8), ((b >>> 7) * 135#8).getLsbD r.val = (b.getLsbD 7 && spec r.val) := by decide +kernel
theorem spec_at (b : Byte) (r : Nat) (hr : r < 8) : ((b >>> 7) * 135#8).getLsbD r = (b.getLsbD 7 && spec r) := spec_bits b ⟨r, hr⟩
theorem bit_dbl (a : List Byte) (i : Nat) (hi : i < 128) : bitA (dblL a) i = ((decide (i ≠ 0) && bitA a (i - 1)) ^^ (bitA a 127 && spec i)) := by
 unfold bitA
 rw [dblL, nth_tab (by omega), dblF]
 by_cases hq : i < 8
 · rw [if_neg (by omega), show i % 8 = i from by omega, BitVec.getLsbD_xor, spec_at _ i hq, BitVec.getLsbD_shiftLeft]
   rcases Nat.eq_zero_or_pos i with rfl | h0
   · simp
   · rw [show (i - 1) / 8 = 0 from by omega, show (i - 1) % 8 = i - 1 from by omega]
     have h1 : i ≠ 0 := by omega
     have h2 : ¬ i < 1 := by omega
     simp [h1, h2, hq]
 · rw [if_pos (by omega), BitVec.getLsbD_or, BitVec.getLsbD_shiftLeft, BitVec.getLsbD_ushiftRight]
   have hs : spec i = false := by unfold spec; simp; omega
   have h1 : i ≠ 0 := by omega
   rw [hs]
   rcases Nat.eq_zero_or_pos (i % 8) with h0 | h0
   · rw [h0, show (i - 1) / 8 = i / 8 - 1 from by omega, show (i - 1) % 8 = 7 from by omega, show 15 - (i / 8 - 1) = 15 - i / 8 + 1 from by omega]
     simp [h1]
   · rw [show (i - 1) / 8 = i / 8 from by omega, show (i - 1) % 8 = i % 8 - 1 from by omega]
     have h2 : ¬ i % 8 < 1 := by omega
     have h3 : i % 8 < 8 := by omega
     have h4 : (nth a (15 - i / 8 + 1)).getLsbD (7 + i % 8) = false := BitVec.getLsbD_of_ge _ _ (by omega)
     have h5 : i % 8 ≠ 0 := by omega
     simp [h1, h2, h3, h4, h5]
theorem dbl_both (a b : List Byte) : dblL (bothL a b) = bothL (dblL a) (dblL b) := bits_ext (dblL_length _) (bothL_length _ _) fun i hi => by
 rw [bit_both, bit_dbl _ _ hi, bit_dbl _ _ hi, bit_dbl _ _ hi, bit_both, bit_both]
 cases decide (i ≠ 0) <;> cases bitA a (i - 1) <;> cases bitA b (i - 1) <;> cases bitA a 127 <;> cases bitA b 127 <;> cases spec i <;> rfl
theorem dblN_both (a b : List Byte) : ∀ n, dblN (bothL a b) n = bothL (dblN a n) (dblN b n)
 | 0 => rfl
 | n + 1 => by rw [dblN, dblN_both a b n, dbl_both]; rfl
theorem dbl_zer : dblL (zer 16) = zer 16 := bits_ext (dblL_length _) zer_length fun i hi => by rw [bit_dbl _ _ hi, bit_zer, bit_zer, bit_zer]; simp
theorem dblN_zer : ∀ n, dblN (zer 16) n = zer 16
 | 0 => rfl
 | n + 1 => by rw [dblN, dblN_zer n, dbl_zer]
def msum (c : Nat → Bool) (a : List Byte) : Nat → List Byte
 | 0 => zer 16
 | k + 1 => if c k = true then bothL (msum c a k) (dblN a k) else msum c a k
theorem msum_length (c : Nat → Bool) (a : List Byte) : ∀ k, (msum c a k).length = 16
 | 0 => zer_length
 | k + 1 => by rw [msum]; split; exact bothL_length _ _; exact msum_length c a k
theorem msum_congr {c d : Nat → Bool} (a : List Byte) : ∀ k, (∀ i, i < k → c i = d i) → msum c a k = msum d a k
 | 0, _ => rfl
 | k + 1, h => by rw [msum, msum, h k (by omega), msum_congr a k fun i hi => h i (by omega)]
theorem msum_both (c : Nat → Bool) (a b : List Byte) : ∀ k, msum c (bothL a b) k = bothL (msum c a k) (msum c b k)
 | 0 => (both_zero (zer 16) zer_length).symm
 | k + 1 => by
   have ih := msum_both c a b k
   by_cases h : c k = true
   · simp only [msum, if_pos h]
     rw [ih, dblN_both, both_four]
   · simp only [msum, if_neg h]
     exact ih
theorem msum_xor (c d : Nat → Bool) (a : List Byte) (ha : a.length = 16) : ∀ k, msum (fun i => c i ^^ d i) a k = bothL (msum c a k) (msum d a k)
 | 0 => (both_zero (zer 16) zer_length).symm
 | k + 1 => by
   rw [msum, msum, msum, msum_xor c d a ha k]
   cases c k <;> cases d k <;> simp only [Bool.xor_false, Bool.xor_true, Bool.not_true, Bool.not_false, if_true, if_false, Bool.false_eq_true]
   · rw [both_assoc]
   · rw [both_assoc, both_comm (msum d a k), ← both_assoc]
   · rw [both_four, both_self, both_zero _ (bothL_length _ _)]
theorem msum_none (c : Nat → Bool) (a : List Byte) (n : Nat) (h : ∀ i, n ≤ i → c i = false) : ∀ k, msum c a (n + k) = msum c a n
 | 0 => rfl
 | k + 1 => by rw [← Nat.add_assoc, msum, h _ (by omega), if_neg (by decide), msum_none c a n h k]
theorem msum_none' (c : Nat → Bool) (a : List Byte) {n m : Nat} (hm : n ≤ m) (h : ∀ i, n ≤ i → i < m → c i = false) : msum c a m = msum c a n := by
 have e : msum c a m = msum (fun i => c i && decide (i < n)) a m := msum_congr a m fun i hi => by
   by_cases hn : i < n
   · simp [hn]
   · simp [hn, h i (by omega) hi]
 rw [e, show m = n + (m - n) from by omega, msum_none _ _ _ (fun i hi => by simp; omega)]
 exact msum_congr a n fun i hi => by simp [hi]
theorem msum_dblN (c : Nat → Bool) (a : List Byte) (m : Nat) : ∀ k, msum c (dblN a m) k = dblN (msum c a k) m
 | 0 => by rw [msum, msum, dblN_zer]
 | k + 1 => by
   have ih := msum_dblN c a m k
   by_cases h : c k = true
   · simp only [msum, if_pos h]
     rw [ih, dblN_both, ← dblN_add, ← dblN_add, Nat.add_comm]
   · simp only [msum, if_neg h]
     exact ih
theorem msum_shift (c : Nat → Bool) (a : List Byte) : ∀ k, msum (fun i => decide (i ≠ 0) && c (i - 1)) a (k + 1) = dblL (msum c a k)
 | 0 => by rw [msum, msum, msum]; simp [dbl_zer]
 | k + 1 => by
   have ih := msum_shift c a k
   have e : (decide (k + 1 ≠ 0) && c (k + 1 - 1)) = c k := by simp
   rw [msum, e, ih]
   by_cases h : c k = true
   · rw [if_pos h, msum, if_pos h, dbl_both]; rfl
   · rw [if_neg h, msum, if_neg h]
def oneL : List Byte := tab 16 fun i => if i = 15 then 1#8 else 0#8
theorem oneL_length : oneL.length = 16 := tab_length
theorem bit_one (j : Nat) (hj : j < 128) : bitA oneL j = decide (j = 0) := by
 unfold bitA
 rw [oneL, nth_tab (by omega)]
 by_cases h : j < 8
 · rw [if_pos (by omega), show j % 8 = j from by omega, BitVec.getLsbD_one]; simp
 · rw [if_neg (by omega)]; simp; omega
theorem bit_oneN : ∀ k, k < 128 → ∀ j, j < 128 → bitA (dblN oneL k) j = decide (j = k)
 | 0, _, j, hj => bit_one j hj
 | k + 1, hk, j, hj => by
   rw [dblN, bit_dbl _ _ hj, bit_oneN k (by omega) 127 (by omega), decide_eq_false (show ¬ 127 = k by omega)]
   rcases Nat.eq_zero_or_pos j with rfl | h
   · simp
   · rw [bit_oneN k (by omega) (j - 1) (by omega)]
     by_cases e : j = k + 1
     · subst e; simp
     · rw [decide_eq_false e, decide_eq_false (show ¬ j - 1 = k by omega)]; simp
theorem bit_msum (c : Nat → Bool) : ∀ k, k ≤ 128 → ∀ j, j < 128 → bitA (msum c oneL k) j = (decide (j < k) && c j)
 | 0, _, j, _ => by rw [msum, bit_zer]; simp
 | k + 1, hk, j, hj => by
   rw [msum]
   by_cases hc : c k = true
   · rw [if_pos hc, bit_both, bit_msum c k (by omega) j hj, bit_oneN k (by omega) j hj]
     rcases Nat.lt_trichotomy j k with h | h | h
     · simp [h, show j < k + 1 by omega, show j ≠ k by omega]
     · subst h; simp [hc]
     · simp [show ¬ j < k by omega, show ¬ j < k + 1 by omega, show j ≠ k by omega]
   · rw [if_neg hc, bit_msum c k (by omega) j hj]
     by_cases h : j = k
     · subst h; simp [hc]
     · by_cases h2 : j < k
       · simp [h2, show j < k + 1 by omega]
       · simp [h2, show ¬ j < k + 1 by omega]
theorem ev_bits (a : List Byte) (h : a.length = 16) : msum (bitA a) oneL 128 = a := bits_ext (msum_length _ _ _) h fun i hi => by rw [bit_msum _ 128 (Nat.le_refl _) i hi]; simp [hi]
def topL : List Byte := msum spec oneL 128
theorem topL_length : topL.length = 16 := msum_length _ _ _
theorem one_128 : dblN oneL 128 = topL := bits_ext (dblN_length _ oneL_length _) topL_length fun i hi => by
 rw [topL, bit_msum _ 128 (Nat.le_refl _) i hi, show (128 : Nat) = 127 + 1 from rfl, dblN, bit_dbl _ _ hi, bit_oneN 127 (by omega) 127 (by omega), bit_oneN 127 (by omega) (i - 1) (by omega), decide_eq_false (show ¬ i - 1 = 127 by omega)]
 simp [hi]
theorem dbl_128 (a : List Byte) (h : a.length = 16) : dblN a 128 = msum spec a 128 := by
 have e : dblN (msum (bitA a) oneL 128) 128 = msum spec (msum (bitA a) oneL 128) 128 := by
   have swap : ∀ k n, msum spec (msum (bitA a) oneL n) k = msum (bitA a) (msum spec oneL k) n := by
     intro k n
     induction k with
     | zero =>
       rw [msum, msum]
       induction n with
       | zero => rfl
       | succ n ih => rw [msum, dblN_zer, both_zero _ (msum_length _ _ _), ite_self]; exact ih
     | succ k ih =>
       rw [msum, msum, ih]
       by_cases h : spec k = true
       · rw [if_pos h, if_pos h, msum_both, msum_dblN]
       · rw [if_neg h, if_neg h]
   rw [swap, ← msum_dblN, one_128, topL]
 rwa [ev_bits a h] at e
def prodL (a b : List Byte) : List Byte := msum (bitA b) a 128
theorem prodL_length (a b : List Byte) : (prodL a b).length = 16 := msum_length _ _ _
theorem prod_dbl (a b : List Byte) (ha : a.length = 16) : prodL a (dblL b) = dblL (prodL a b) := by
 have e1 : prodL a (dblL b) = msum (fun i => (decide (i ≠ 0) && bitA b (i - 1)) ^^ (bitA b 127 && spec i)) a 128 := msum_congr a 128 fun i hi => bit_dbl b i hi
 have e2 : msum (bitA b) a (127 + 1) = if bitA b 127 = true then bothL (msum (bitA b) a 127) (dblN a 127) else msum (bitA b) a 127 := by rw [msum]
 have e3 := dbl_128 a ha
 rw [show (128 : Nat) = 127 + 1 from rfl, dblN] at e3
 rw [e1, msum_xor _ _ _ ha, prodL, show (128 : Nat) = 127 + 1 from rfl, msum_shift (bitA b) a 127, e2]
 by_cases h : bitA b 127 = true
 · rw [if_pos h, h, dbl_both]
   congr 1
   simp only [Bool.true_and]
   exact e3.symm
 · have h' : bitA b 127 = false := by cases hb : bitA b 127 <;> simp_all
   rw [if_neg h, h']
   simp only [Bool.false_and]
   rw [show msum (fun _ => false) a (127 + 1) = zer 16 from msum_none' _ a (Nat.zero_le _) fun _ _ _ => rfl, both_zero _ (dblL_length _)]
theorem prod_one (a : List Byte) (ha : a.length = 16) : prodL a oneL = a := by
 rw [prodL, show msum (bitA oneL) a 128 = msum (bitA oneL) a 1 from msum_none' _ a (by omega) fun i h1 h2 => by rw [bit_one i h2]; simp; omega, msum, msum, bit_one 0 (by omega)]
 simp [dblN, zero_both a ha]
theorem prod_pow (a : List Byte) (ha : a.length = 16) : ∀ m, prodL a (dblN oneL m) = dblN a m
 | 0 => prod_one a ha
 | m + 1 => by rw [dblN, prod_dbl _ _ ha, prod_pow a ha m]; rfl
def mulL (n : BitVec 64) (a : List Byte) : List Byte := msum n.getLsbD a 64
theorem mulL_length (n : BitVec 64) (a : List Byte) : (mulL n a).length = 16 := msum_length _ _ _
theorem mul_zero (a : List Byte) : mulL 0#64 a = zer 16 := by
 rw [mulL, msum_none' (n := 0) _ a (Nat.zero_le _) fun i _ _ => by simp]; rfl
theorem mul_end (n : BitVec 64) (a : List Byte) (k : Nat) (hk : k ≤ 64) (h : n >>> k = 0#64) : msum n.getLsbD a k = mulL n a := by
 rw [mulL, msum_none' _ a hk]
 intro i h1 h2
 have := congrArg (fun z => z.getLsbD (i - k)) h
 simp only [BitVec.getLsbD_ushiftRight] at this
 rw [show k + (i - k) = i from by omega] at this
 simpa using this
end Go.Proofs.YtaijfigohlkccaaGreatDoor
namespace Go.Proofs.YtaijfigohlkccaaGreatDoor
open Go
def bb (c : Bool) : Byte := if c = true then 1#8 else 0#8
def pc (p : List Byte) (i : Nat) : Bool := (nth p i).getLsbD 0
def isP (p : List Byte) : Prop := p.length = 256 ∧ ∀ i, nth p i = bb (pc p i)
theorem bb_xor (a b : Bool) : bb a ^^^ bb b = bb (a ^^ b) := by cases a <;> cases b <;> rfl
theorem bb_bit (a : Bool) : (bb a).getLsbD 0 = a := by cases a <;> rfl
theorem bb_zero (a : Bool) : bb a = 0#8 ↔ a = false := by cases a <;> decide
theorem bb_one (a : Bool) : bb a = 1#8 ↔ a = true := by cases a <;> decide
theorem bit_mod : ∀ (b : Byte) (k : Fin 8), (b >>> k.val) % 2#8 = bb (b.getLsbD k.val) := by decide +kernel
theorem zer_nth {m : Nat} (i : Nat) : nth (zer (n := 8) m) i = 0#8 := by
 by_cases h : i < m
 · rw [zer, nth_tab h]; rfl
 · rw [nth_ge (by rw [zer_length]; omega)]; rfl
theorem setP_nth {l : List Byte} {k : Nat} {x : Byte} (hk : k < l.length) (i : Nat) : nth (setN l k x) i = if k = i then x else nth l i := by
 by_cases h : i < l.length
 · exact nth_set h
 · rw [nth_ge (by rw [setN_length]; omega), nth_ge (by omega), if_neg (by omega)]
theorem isP_zer : isP (zer 256) := ⟨zer_length, fun i => by unfold pc; rw [zer_nth]; rfl⟩
theorem isP_set {l : List Byte} (h : isP l) (i : Nat) (hi : i < 256) (b : Bool) : isP (setN l i (nth l i ^^^ bb b)) := ⟨by rw [setN_length]; exact h.1, fun j => by
 unfold pc
 rw [setP_nth (by rw [h.1]; exact hi)]
 split
 · rw [h.2 i, bb_xor, bb_bit]
 · exact h.2 j⟩
theorem pc_set {l : List Byte} (h : l.length = 256) (i : Nat) (hi : i < 256) (x : Byte) (j : Nat) : pc (setN l i (nth l i ^^^ x)) j = (pc l j ^^ (decide (j = i) && x.getLsbD 0)) := by
 unfold pc
 rw [setP_nth (by rw [h]; exact hi)]
 by_cases e : i = j
 · subst e; simp
 · rw [if_neg e, decide_eq_false (fun h => e h.symm)]; simp
def evP (l : List Byte) : List Byte := msum (pc l) oneL 256
theorem evP_length (l : List Byte) : (evP l).length = 16 := msum_length _ _ _
theorem msum_single (a : List Byte) (ha : a.length = 16) (i n : Nat) (hi : i < n) (b : Bool) : msum (fun j => decide (j = i) && b) a n = if b = true then dblN a i else zer 16 := by
 rw [msum_none' (n := i + 1) _ a (by omega) (fun j h1 h2 => by simp; omega), msum, msum_none' (n := 0) _ a (Nat.zero_le _) (fun j h1 h2 => by simp; omega), msum]
 cases b
 · simp
 · simp [zero_both _ (dblN_length a ha i)]
theorem ev_set {l : List Byte} (h : l.length = 256) (i : Nat) (hi : i < 256) (x : Byte) : evP (setN l i (nth l i ^^^ x)) = bothL (evP l) (if x.getLsbD 0 = true then dblN oneL i else zer 16) := by
 rw [evP, msum_congr oneL 256 fun j _ => pc_set h i hi x j, msum_xor _ _ _ oneL_length, msum_single _ oneL_length i 256 hi]; rfl
def cmK (p out : List Byte) (i : Nat) : Nat → List Byte
 | 0 => out
 | k + 1 => setN (cmK p out i k) (i + k) (nth (cmK p out i k) (i + k) ^^^ nth p k)
theorem cmK_isP {p out : List Byte} (hp : isP p) (ho : isP out) (i : Nat) : ∀ k, i + k ≤ 256 → isP (cmK p out i k)
 | 0, _ => ho
 | k + 1, h => by rw [cmK, hp.2 k]; exact isP_set (cmK_isP hp ho i k (by omega)) _ (by omega) _
theorem ev_cmK {p out : List Byte} (hp : isP p) (ho : isP out) (i : Nat) : ∀ k, i + k ≤ 256 → evP (cmK p out i k) = bothL (evP out) (dblN (msum (pc p) oneL k) i)
 | 0, _ => by rw [cmK, msum, dblN_zer, both_zero _ (evP_length _)]
 | k + 1, h => by
   rw [cmK, ev_set (cmK_isP hp ho i k (by omega)).1 _ (by omega), ev_cmK hp ho i k (by omega), msum]
   rw [show (nth p k).getLsbD 0 = pc p k from rfl]
   by_cases hc : pc p k = true
   · rw [if_pos hc, if_pos hc, dblN_both, ← dblN_add, both_assoc, Nat.add_comm]
   · rw [if_neg hc, if_neg hc, both_zero _ (bothL_length _ _)]
def cmI (p q : List Byte) : Nat → List Byte
 | 0 => zer 256
 | i + 1 => if nth q i = 0#8 then cmI p q i else cmK p (cmI p q i) i 128
theorem cmI_isP {p q : List Byte} (hp : isP p) : ∀ i, i ≤ 128 → isP (cmI p q i)
 | 0, _ => isP_zer
 | i + 1, h => by
   rw [cmI]; split
   · exact cmI_isP hp i (by omega)
   · exact cmK_isP hp (cmI_isP hp i (by omega)) i 128 (by omega)
theorem cmK_length (p out : List Byte) (i : Nat) : ∀ k, (cmK p out i k).length = out.length
 | 0 => rfl
 | k + 1 => by rw [cmK, setN_length, cmK_length p out i k]
theorem cmI_length (p q : List Byte) : ∀ i, (cmI p q i).length = 256
 | 0 => zer_length
 | i + 1 => by
   rw [cmI]; split
   · exact cmI_length p q i
   · rw [cmK_length]; exact cmI_length p q i
theorem ev_zer : evP (zer 256) = zer 16 := msum_none' _ _ (Nat.zero_le _) fun i _ _ => by unfold pc; rw [zer_nth]; rfl
theorem ev_cmI {p q : List Byte} (hp : isP p) (hq : isP q) : ∀ i, i ≤ 128 → evP (cmI p q i) = msum (pc q) (msum (pc p) oneL 128) i
 | 0, _ => ev_zer
 | i + 1, h => by
   rw [cmI, msum, hq.2 i]
   by_cases hc : pc q i = true
   · rw [if_neg (by rw [bb_zero]; simp [hc]), if_pos hc, ev_cmK hp (cmI_isP hp i (by omega)) i 128 (by omega), ev_cmI hp hq i (by omega)]
   · have hc' : pc q i = false := by simpa using hc
     rw [if_pos (by rw [bb_zero]; exact hc'), if_neg hc, ev_cmI hp hq i (by omega)]
theorem cmI_top {p q : List Byte} : ∀ i, i ≤ 128 → ∀ j, 255 ≤ j → nth (cmI p q i) j = 0#8
 | 0, _, j, _ => zer_nth j
 | i + 1, h, j, hj => by
   have e : ∀ k, k ≤ 128 → nth (cmK p (cmI p q i) i k) j = 0#8 := fun k => by
     induction k with
     | zero => intro _; exact cmI_top i (by omega) j hj
     | succ k ih =>
       intro hk
       have hl : (cmK p (cmI p q i) i k).length = 256 := by rw [cmK_length, cmI_length]
       rw [cmK, setP_nth (by omega), if_neg (by omega)]; exact ih (by omega)
   rw [cmI]; split
   · exact cmI_top i (by omega) j hj
   · exact e 128 (Nat.le_refl _)
def put1 (l : List Byte) (i : Nat) : List Byte := setN l i (nth l i ^^^ 1#8)
theorem put1_length (l : List Byte) (i : Nat) : (put1 l i).length = l.length := setN_length
def rd1 (l : List Byte) (i a b c : Nat) : List Byte :=
 if nth l i = 1#8 then put1 (put1 (put1 (put1 (setN l i 0#8) (i - 128 + a)) (i - 128 + b)) (i - 128 + c)) (i - 128) else l
theorem rd1_length (l : List Byte) (i a b c : Nat) : (rd1 l i a b c).length = l.length := by
 unfold rd1; split
 · simp [put1_length]
 · rfl
def rdF (l : List Byte) (a b c : Nat) : Nat → List Byte
 | 0 => l
 | j + 1 => rd1 (rdF l a b c j) (254 - j) a b c
theorem rdF_length (l : List Byte) (a b c : Nat) : ∀ j, (rdF l a b c j).length = l.length
 | 0 => rfl
 | j + 1 => by rw [rdF, rd1_length, rdF_length l a b c j]
def restL (p q : List Byte) (a b c : Nat) : List Byte := rdF (cmI p q 128) a b c 127
theorem restL_length (p q : List Byte) (a b c : Nat) : (restL p q a b c).length = 256 := by rw [restL, rdF_length, cmI_length]
theorem put1_isP {l : List Byte} (h : isP l) (i : Nat) (hi : i < 256) : isP (put1 l i) := isP_set h i hi true
theorem ev_put1 {l : List Byte} (h : l.length = 256) (i : Nat) (hi : i < 256) : evP (put1 l i) = bothL (evP l) (dblN oneL i) := ev_set h i hi 1#8
theorem top_sum : topL = bothL (bothL (bothL (dblN oneL 7) (dblN oneL 2)) (dblN oneL 1)) oneL := by
 rw [topL, msum_none' (n := 8) spec oneL (by omega) (fun i h1 h2 => by unfold spec; simp; omega)]
 have h0 : spec 0 = true := rfl
 have h1 : spec 1 = true := rfl
 have h2 : spec 2 = true := rfl
 have h3 : spec 3 = false := rfl
 have h4 : spec 4 = false := rfl
 have h5 : spec 5 = false := rfl
 have h6 : spec 6 = false := rfl
 have h7 : spec 7 = true := rfl
 rw [msum, msum, msum, msum, msum, msum, msum, msum, msum, if_pos h7, if_neg (by simp [h6]), if_neg (by simp [h5]), if_neg (by simp [h4]), if_neg (by simp [h3]), if_pos h2, if_pos h1, if_pos h0]
 rw [show dblN oneL 0 = oneL from rfl, zero_both _ oneL_length]
 rw [both_comm _ (dblN oneL 7), both_comm _ (dblN oneL 2), both_comm oneL, ← both_assoc, ← both_assoc]
theorem rd1_isP {l : List Byte} (h : isP l) (i : Nat) (h1 : 128 ≤ i) (h2 : i ≤ 254) : isP (rd1 l i 7 2 1) := by
 unfold rd1; split
 · next e =>
   have e0 : setN l i 0#8 = put1 l i := by rw [put1, e]; rfl
   rw [e0]
   exact put1_isP (put1_isP (put1_isP (put1_isP (put1_isP h _ (by omega)) _ (by omega)) _ (by omega)) _ (by omega)) _ (by omega)
 · exact h
theorem ev_rd1 {l : List Byte} (h : isP l) (i : Nat) (h1 : 128 ≤ i) (h2 : i ≤ 254) : evP (rd1 l i 7 2 1) = evP l := by
 unfold rd1; split
 · next e =>
   have e0 : setN l i 0#8 = put1 l i := by rw [put1, e]; rfl
   have hl := h.1
   rw [e0, ev_put1 (by simp [put1_length, hl]) _ (by omega), ev_put1 (by simp [put1_length, hl]) _ (by omega), ev_put1 (by simp [put1_length, hl]) _ (by omega), ev_put1 (by simp [put1_length, hl]) _ (by omega), ev_put1 hl _ (by omega)]
   have et : dblN oneL i = bothL (bothL (bothL (dblN oneL (i - 128 + 7)) (dblN oneL (i - 128 + 2))) (dblN oneL (i - 128 + 1))) (dblN oneL (i - 128)) := by
     have e1 : ∀ k, dblN oneL (i - 128 + k) = dblN (dblN oneL k) (i - 128) := fun k => by rw [Nat.add_comm, dblN_add]
     rw [e1, e1, e1, ← dblN_both, ← dblN_both, ← dblN_both, ← top_sum, ← one_128, ← dblN_add, show 128 + (i - 128) = i from by omega]
   rw [et]
   generalize dblN oneL (i - 128 + 7) = A
   generalize dblN oneL (i - 128 + 2) = B
   generalize dblN oneL (i - 128 + 1) = C
   generalize dblN oneL (i - 128) = D
   have := evP_length l
   generalize evP l = E at *
   rw [both_assoc, both_assoc, both_assoc, both_assoc]
   rw [show bothL A (bothL B (bothL C D)) = bothL (bothL (bothL A B) C) D from by rw [both_assoc, both_assoc]]
   rw [both_self, both_zero _ this]
 · rfl
theorem rd1_top {l : List Byte} (hl : l.length = 256) (i : Nat) (h1 : 128 ≤ i) (h2 : i ≤ 254) (hp : isP l) (ht : ∀ j, i < j → nth l j = 0#8) (j : Nat) (hj : i ≤ j) : nth (rd1 l i 7 2 1) j = 0#8 := by
 unfold rd1; split
 · unfold put1
   rw [setP_nth (by simp; omega), if_neg (by omega), setP_nth (by simp; omega), if_neg (by omega), setP_nth (by simp; omega), if_neg (by omega), setP_nth (by simp; omega), if_neg (by omega), setP_nth (by omega)]
   split
   · rfl
   · exact ht j (by omega)
 · next e =>
   rcases Nat.eq_or_lt_of_le hj with rfl | h
   · have := hp.2 i
     rw [this, bb_one] at e
     rw [this, bb_zero]; simpa using e
   · exact ht j h
theorem rdF_all {l : List Byte} (hp : isP l) (ht : ∀ j, 254 < j → nth l j = 0#8) : ∀ k, k ≤ 127 → isP (rdF l 7 2 1 k) ∧ evP (rdF l 7 2 1 k) = evP l ∧ ∀ j, 254 - k < j → nth (rdF l 7 2 1 k) j = 0#8
 | 0, _ => ⟨hp, rfl, fun j hj => ht j (by omega)⟩
 | k + 1, h => by
   obtain ⟨a, b, c⟩ := rdF_all hp ht k (by omega)
   rw [rdF]
   refine ⟨rd1_isP a _ (by omega) (by omega), (ev_rd1 a _ (by omega) (by omega)).trans b, fun j hj => rd1_top a.1 _ (by omega) (by omega) a c j (by omega)⟩
def hiF (p : List Byte) : Nat → List Byte
 | 0 => zer 16
 | k + 1 => setN (hiF p k) (15 - k / 8) (nth (hiF p k) (15 - k / 8) + (nth p k <<< (k % 8)))
theorem hiF_length (p : List Byte) : ∀ k, (hiF p k).length = 16
 | 0 => zer_length
 | k + 1 => by rw [hiF, setN_length, hiF_length p k]
theorem add_bit : ∀ (x : Byte) (r : Fin 8) (b : Bool) (j : Fin 8), x >>> r.val = 0#8 → (x + (bb b <<< r.val)).getLsbD j.val = if j.val = r.val then b else x.getLsbD j.val := by decide +kernel
theorem bit_hi {p : List Byte} (hp : isP p) : ∀ k, k ≤ 128 → ∀ j, j < 128 → bitA (hiF p k) j = (decide (j < k) && pc p j)
 | 0, _, j, _ => by rw [hiF, bit_zer]; simp
 | k + 1, hk, j, hj => by
   have ih := bit_hi hp k (by omega)
   have hz : nth (hiF p k) (15 - k / 8) >>> (k % 8) = 0#8 := by
     apply BitVec.eq_of_getLsbD_eq
     intro r hr
     rw [BitVec.getLsbD_ushiftRight]
     by_cases h8 : k % 8 + r < 8
     · have := ih (8 * (k / 8) + (k % 8 + r)) (by omega)
       unfold bitA at this
       rw [show (8 * (k / 8) + (k % 8 + r)) / 8 = k / 8 from by omega, show (8 * (k / 8) + (k % 8 + r)) % 8 = k % 8 + r from by omega] at this
       rw [this, decide_eq_false (by omega)]; simp
     · rw [BitVec.getLsbD_of_ge _ _ (by omega)]; simp
   have hb := add_bit (nth (hiF p k) (15 - k / 8)) ⟨k % 8, Nat.mod_lt _ (by omega)⟩ (pc p k) ⟨j % 8, Nat.mod_lt _ (by omega)⟩ hz
   have hi := ih j hj
   unfold bitA at hi ⊢
   rw [hiF, hp.2 k, setP_nth (by rw [hiF_length]; omega)]
   by_cases e : 15 - k / 8 = 15 - j / 8
   · rw [if_pos e]
     simp only at hb
     rw [hb]
     by_cases e2 : j % 8 = k % 8
     · obtain rfl : j = k := by omega
       rw [if_pos rfl]; simp
     · rw [if_neg e2, e, hi]
       have : (j < k) ↔ (j < k + 1) := by omega
       simp [this]
   · rw [if_neg e, hi]
     have : (j < k) ↔ (j < k + 1) := by omega
     simp [this]
theorem hi_ev {p : List Byte} (hp : isP p) (ht : ∀ j, 127 < j → nth p j = 0#8) : hiF p 128 = evP p := by
 rw [evP, msum_none' (n := 128) (pc p) oneL (by omega) fun i h1 _ => by unfold pc; rw [ht i (by omega)]; rfl]
 exact bits_ext (hiF_length _ _) (msum_length _ _ _) fun i hi => by rw [bit_hi hp 128 (Nat.le_refl _) i hi, bit_msum _ 128 (Nat.le_refl _) i hi]
def highF (a : List Byte) (k : Nat) : Byte := (nth a (15 - k / 8) >>> (k % 8)) % 2#8
def highL (a : List Byte) : List Byte := part 256 128 (highF a) fun _ => 0
theorem highL_length (a : List Byte) : (highL a).length = 256 := part_length
theorem high_nth (a : List Byte) (i : Nat) : nth (highL a) i = bb (decide (i < 128) && bitA a i) := by
 by_cases h : i < 256
 · by_cases h2 : i < 128
   · rw [highL, nth_part_lt h h2, highF, bit_mod _ ⟨i % 8, Nat.mod_lt _ (by omega)⟩]; simp [h2, bitA]
   · rw [highL, nth_part_ge h (by omega)]; simp [h2, bb]
 · rw [nth_ge (by rw [highL_length]; omega)]; simp [show ¬ i < 128 by omega, bb]
theorem pc_high (a : List Byte) (i : Nat) : pc (highL a) i = (decide (i < 128) && bitA a i) := by unfold pc; rw [high_nth, bb_bit]
theorem high_isP (a : List Byte) : isP (highL a) := ⟨highL_length a, fun i => by rw [pc_high, high_nth]⟩
def numF (n : BitVec 64) (k : Nat) : Byte := ((n >>> k) % 2#64).setWidth 8
def numL (n : BitVec 64) : List Byte := part 256 64 (numF n) fun _ => 0
theorem numL_length (n : BitVec 64) : (numL n).length = 256 := part_length
theorem numF_bit (n : BitVec 64) (k : Nat) : numF n k = bb (n.getLsbD k) := by
 have h : (n >>> k) % 2#64 = (n >>> k) &&& 1#64 := by
   apply BitVec.eq_of_toNat_eq
   rw [BitVec.toNat_umod, BitVec.toNat_and]
   exact (Nat.and_one_is_mod _).symm
 rw [numF, h]
 apply BitVec.eq_of_getLsbD_eq
 intro j hj
 rw [BitVec.getLsbD_setWidth, BitVec.getLsbD_and, BitVec.getLsbD_ushiftRight, BitVec.getLsbD_one]
 rcases Nat.eq_zero_or_pos j with rfl | h0
 · rw [bb_bit]; simp
 · have : (bb (n.getLsbD k)).getLsbD j = false := by
     cases n.getLsbD k
     · simp [bb]
     · simp [bb]; omega
   rw [this]; simp; omega
theorem num_nth (n : BitVec 64) (i : Nat) : nth (numL n) i = bb (decide (i < 64) && n.getLsbD i) := by
 by_cases h : i < 256
 · by_cases h2 : i < 64
   · rw [numL, nth_part_lt h h2, numF_bit]; simp [h2]
   · rw [numL, nth_part_ge h (by omega)]; simp [h2, bb]
 · rw [nth_ge (by rw [numL_length]; omega)]; simp [show ¬ i < 64 by omega, bb]
theorem pc_num (n : BitVec 64) (i : Nat) : pc (numL n) i = (decide (i < 64) && n.getLsbD i) := by unfold pc; rw [num_nth, bb_bit]
theorem num_isP (n : BitVec 64) : isP (numL n) := ⟨numL_length n, fun i => by rw [pc_num, num_nth]⟩
theorem rmul_mul (n : BitVec 64) (a : List Byte) (ha : a.length = 16) : hiF (restL (highL a) (numL n) 7 2 1) 128 = mulL n a := by
 obtain ⟨h1, h2, h3⟩ := rdF_all (cmI_isP (q := numL n) (high_isP a) 128 (Nat.le_refl _)) (fun j hj => cmI_top 128 (Nat.le_refl _) j (by omega)) 127 (Nat.le_refl _)
 rw [restL, hi_ev h1 h3, h2, ev_cmI (high_isP a) (num_isP n) 128 (Nat.le_refl _)]
 rw [show msum (pc (highL a)) oneL 128 = a from by rw [msum_congr (d := bitA a) oneL 128 (fun i hi => by rw [pc_high]; simp [hi]), ev_bits a ha]]
 rw [msum_none' (n := 64) _ a (by omega) (fun i h1 h2 => by rw [pc_num, decide_eq_false (by omega)]; rfl), mulL]
 exact msum_congr a 64 fun i hi => by rw [pc_num]; simp [hi]
end Go.Proofs.YtaijfigohlkccaaGreatDoor
