/-
  The sizes and zeros of this program's types, and the conversions among its kinds of numbers, by the kernel. No conditions.
-/
import Derived.Test.YtmgopjeaehmbfaaDoorOwn
namespace Go.Proofs.YtmgopjeaehmbfaaDoor
open Go Go.RowKit
set_option maxRecDepth 100000
set_option linter.unusedVariables false
set_option linter.unusedSimpArgs false

instance : One1 Tryd.prog 1 := ⟨by kernel_rfl, by kernel_rfl⟩
instance : One1 Tryd.prog 2 := ⟨by kernel_rfl, by kernel_rfl⟩
instance : ZeroOf Tryd.prog 2 [.int .i64 0] := ⟨by kernel_rfl⟩
instance : One1 Tryd.prog 3 := ⟨by kernel_rfl, by kernel_rfl⟩
instance : ZeroOf Tryd.prog 3 [.int .i64 0] := ⟨by kernel_rfl⟩
instance : One1 Tryd.prog 4 := ⟨by kernel_rfl, by kernel_rfl⟩
instance : ZeroOf Tryd.prog 4 [.bool false] := ⟨by kernel_rfl⟩
instance : One1 Tryd.prog 5 := ⟨by kernel_rfl, by kernel_rfl⟩
instance : ZeroOf Tryd.prog 5 [v8 0#8] := ⟨by kernel_rfl⟩
instance : Many Tryd.prog 7 4 := ⟨by kernel_rfl, by kernel_rfl⟩
instance : ZeroOf Tryd.prog 7 ([.int .i64 0, .int .i64 0, .bool false, v8 0#8]) := ⟨by kernel_rfl⟩
instance : One1 Tryd.prog 9 := ⟨by kernel_rfl, by kernel_rfl⟩
instance : ZeroOf Tryd.prog 9 [.string ⟨#[]⟩] := ⟨by kernel_rfl⟩
instance : One1 Tryd.prog 12 := ⟨by kernel_rfl, by kernel_rfl⟩
instance : ZeroOf Tryd.prog 12 [v64 0#64] := ⟨by kernel_rfl⟩
instance : Many Tryd.prog 13 2 := ⟨by kernel_rfl, by kernel_rfl⟩
instance : ZeroOf Tryd.prog 13 ([.string ⟨#[]⟩, v64 0#64]) := ⟨by kernel_rfl⟩
instance : Many Tryd.prog 18 1 := ⟨by kernel_rfl, by kernel_rfl⟩
instance : ZeroOf Tryd.prog 18 ([.pointer none]) := ⟨by kernel_rfl⟩
instance : One1 Tryd.prog 20 := ⟨by kernel_rfl, by kernel_rfl⟩
instance : ZeroOf Tryd.prog 20 [.nilIface] := ⟨by kernel_rfl⟩
instance : One1 Tryd.prog 21 := ⟨by kernel_rfl, by kernel_rfl⟩
instance : ZeroOf Tryd.prog 21 [.int .i32 0] := ⟨by kernel_rfl⟩
instance : One1 Tryd.prog 22 := ⟨by kernel_rfl, by kernel_rfl⟩
instance : ZeroOf Tryd.prog 22 [.slice none 0 0] := ⟨by kernel_rfl⟩
instance : One1 Tryd.prog 23 := ⟨by kernel_rfl, by kernel_rfl⟩
instance : One1 Tryd.prog 24 := ⟨by kernel_rfl, by kernel_rfl⟩
instance : ZeroOf Tryd.prog 24 [.pointer none] := ⟨by kernel_rfl⟩
instance : One1 Tryd.prog 26 := ⟨by kernel_rfl, by kernel_rfl⟩
instance : Many Tryd.prog 27 16 := ⟨by kernel_rfl, by kernel_rfl⟩
instance : ZeroOf Tryd.prog 27 ((zer (n := 8) 16).map v8) := ⟨by kernel_rfl⟩
instance : One1 Tryd.prog 28 := ⟨by kernel_rfl, by kernel_rfl⟩
instance : One1 Tryd.prog 29 := ⟨by kernel_rfl, by kernel_rfl⟩
instance : Many Tryd.prog 30 256 := ⟨by kernel_rfl, by kernel_rfl⟩
instance : ZeroOf Tryd.prog 30 ((zer (n := 8) 256).map v8) := ⟨by kernel_rfl⟩
instance : Many Tryd.prog 31 512 := ⟨by kernel_rfl, by kernel_rfl⟩
instance : ZeroOf Tryd.prog 31 ((zer (n := 8) 512).map v8) := ⟨by kernel_rfl⟩
instance : Many Tryd.prog 32 512 := ⟨by kernel_rfl, by kernel_rfl⟩
instance : ZeroOf Tryd.prog 32 ((zer (n := 8) 512).map v8) := ⟨by kernel_rfl⟩
instance : Many Tryd.prog 33 48 := ⟨by kernel_rfl, by kernel_rfl⟩
instance : ZeroOf Tryd.prog 33 ((zer (n := 8) 48).map v8) := ⟨by kernel_rfl⟩
instance : Many Tryd.prog 34 560 := ⟨by kernel_rfl, by kernel_rfl⟩
instance : ZeroOf Tryd.prog 34 ((zer (n := 8) 560).map v8) := ⟨by kernel_rfl⟩
instance : Many Tryd.prog 35 560 := ⟨by kernel_rfl, by kernel_rfl⟩
instance : ZeroOf Tryd.prog 35 ((zer (n := 8) 560).map v8) := ⟨by kernel_rfl⟩
instance : One1 Tryd.prog 36 := ⟨by kernel_rfl, by kernel_rfl⟩
instance : One1 Tryd.prog 37 := ⟨by kernel_rfl, by kernel_rfl⟩
instance : One1 Tryd.prog 38 := ⟨by kernel_rfl, by kernel_rfl⟩
instance : One1 Tryd.prog 39 := ⟨by kernel_rfl, by kernel_rfl⟩
instance : One1 Tryd.prog 40 := ⟨by kernel_rfl, by kernel_rfl⟩
instance : ZeroOf Tryd.prog 40 [.slice none 0 0] := ⟨by kernel_rfl⟩
instance : One1 Tryd.prog 41 := ⟨by kernel_rfl, by kernel_rfl⟩
instance : One1 Tryd.prog 42 := ⟨by kernel_rfl, by kernel_rfl⟩
instance : One1 Tryd.prog 43 := ⟨by kernel_rfl, by kernel_rfl⟩
instance : One1 Tryd.prog 44 := ⟨by kernel_rfl, by kernel_rfl⟩
instance : One1 Tryd.prog 45 := ⟨by kernel_rfl, by kernel_rfl⟩
instance : ZeroOf Tryd.prog 45 [v16 0#16] := ⟨by kernel_rfl⟩
instance : One1 Tryd.prog 46 := ⟨by kernel_rfl, by kernel_rfl⟩
instance : One1 Tryd.prog 47 := ⟨by kernel_rfl, by kernel_rfl⟩
instance : Many Tryd.prog 48 35 := ⟨by kernel_rfl, by kernel_rfl⟩
instance : ZeroOf Tryd.prog 48 ([.slice none 0 0] ++ ((zer (n := 8) 34).map v8)) := ⟨by kernel_rfl⟩
instance : Many Tryd.prog 49 35 := ⟨by kernel_rfl, by kernel_rfl⟩
instance : ZeroOf Tryd.prog 49 ([.slice none 0 0] ++ ((zer (n := 8) 34).map v8)) := ⟨by kernel_rfl⟩
instance : One1 Tryd.prog 50 := ⟨by kernel_rfl, by kernel_rfl⟩
instance : One1 Tryd.prog 51 := ⟨by kernel_rfl, by kernel_rfl⟩
instance : One1 Tryd.prog 52 := ⟨by kernel_rfl, by kernel_rfl⟩
instance : ZeroOf Tryd.prog 52 [.int .i64 0] := ⟨by kernel_rfl⟩
instance : One1 Tryd.prog 54 := ⟨by kernel_rfl, by kernel_rfl⟩
instance : One1 Tryd.prog 55 := ⟨by kernel_rfl, by kernel_rfl⟩
instance : One1 Tryd.prog 56 := ⟨by kernel_rfl, by kernel_rfl⟩
instance : One1 Tryd.prog 57 := ⟨by kernel_rfl, by kernel_rfl⟩
instance : Many Tryd.prog 58 4 := ⟨by kernel_rfl, by kernel_rfl⟩
instance : ZeroOf Tryd.prog 58 ([.slice none 0 0, .slice none 0 0, .slice none 0 0, .bool false]) := ⟨by kernel_rfl⟩
instance : Many Tryd.prog 59 4 := ⟨by kernel_rfl, by kernel_rfl⟩
instance : ZeroOf Tryd.prog 59 ([.slice none 0 0, .slice none 0 0, .slice none 0 0, .bool false]) := ⟨by kernel_rfl⟩
instance : One1 Tryd.prog 60 := ⟨by kernel_rfl, by kernel_rfl⟩
instance : One1 Tryd.prog 61 := ⟨by kernel_rfl, by kernel_rfl⟩
instance : One1 Tryd.prog 62 := ⟨by kernel_rfl, by kernel_rfl⟩
instance : One1 Tryd.prog 63 := ⟨by kernel_rfl, by kernel_rfl⟩
instance : One1 Tryd.prog 64 := ⟨by kernel_rfl, by kernel_rfl⟩
instance : One1 Tryd.prog 65 := ⟨by kernel_rfl, by kernel_rfl⟩
instance : Many Tryd.prog 66 4 := ⟨by kernel_rfl, by kernel_rfl⟩
instance : ZeroOf Tryd.prog 66 ([.slice none 0 0, .slice none 0 0, .slice none 0 0, .bool false]) := ⟨by kernel_rfl⟩
instance : One1 Tryd.prog 67 := ⟨by kernel_rfl, by kernel_rfl⟩
instance : One1 Tryd.prog 68 := ⟨by kernel_rfl, by kernel_rfl⟩
instance : One1 Tryd.prog 69 := ⟨by kernel_rfl, by kernel_rfl⟩
instance : One1 Tryd.prog 70 := ⟨by kernel_rfl, by kernel_rfl⟩
instance : One1 Tryd.prog 72 := ⟨by kernel_rfl, by kernel_rfl⟩
instance : One1 Tryd.prog 75 := ⟨by kernel_rfl, by kernel_rfl⟩
instance : One1 Tryd.prog 76 := ⟨by kernel_rfl, by kernel_rfl⟩
instance : One1 Tryd.prog 77 := ⟨by kernel_rfl, by kernel_rfl⟩
instance : One1 Tryd.prog 78 := ⟨by kernel_rfl, by kernel_rfl⟩
instance : One1 Tryd.prog 79 := ⟨by kernel_rfl, by kernel_rfl⟩
instance : One1 Tryd.prog 81 := ⟨by kernel_rfl, by kernel_rfl⟩
instance : One1 Tryd.prog 82 := ⟨by kernel_rfl, by kernel_rfl⟩
instance : ZeroOf Tryd.prog 82 [.pointer none] := ⟨by kernel_rfl⟩
instance : One1 Tryd.prog 83 := ⟨by kernel_rfl, by kernel_rfl⟩
instance : One1 Tryd.prog 84 := ⟨by kernel_rfl, by kernel_rfl⟩
instance : ZeroOf Tryd.prog 84 [.pointer none] := ⟨by kernel_rfl⟩
instance : One1 Tryd.prog 85 := ⟨by kernel_rfl, by kernel_rfl⟩
instance : One1 Tryd.prog 86 := ⟨by kernel_rfl, by kernel_rfl⟩
instance : One1 Tryd.prog 87 := ⟨by kernel_rfl, by kernel_rfl⟩
instance : One1 Tryd.prog 88 := ⟨by kernel_rfl, by kernel_rfl⟩
instance : One1 Tryd.prog 90 := ⟨by kernel_rfl, by kernel_rfl⟩
instance : One1 Tryd.prog 91 := ⟨by kernel_rfl, by kernel_rfl⟩
instance : One1 Tryd.prog 92 := ⟨by kernel_rfl, by kernel_rfl⟩
instance : One1 Tryd.prog 93 := ⟨by kernel_rfl, by kernel_rfl⟩
instance : One1 Tryd.prog 94 := ⟨by kernel_rfl, by kernel_rfl⟩
instance : Many Tryd.prog 95 49 := ⟨by kernel_rfl, by kernel_rfl⟩
instance : ZeroOf Tryd.prog 95 ([.pointer none] ++ ((zer (n := 8) 48).map v8)) := ⟨by kernel_rfl⟩
instance : Many Tryd.prog 96 49 := ⟨by kernel_rfl, by kernel_rfl⟩
instance : ZeroOf Tryd.prog 96 ([.pointer none] ++ ((zer (n := 8) 48).map v8)) := ⟨by kernel_rfl⟩
instance : One1 Tryd.prog 97 := ⟨by kernel_rfl, by kernel_rfl⟩
instance : One1 Tryd.prog 98 := ⟨by kernel_rfl, by kernel_rfl⟩
instance : One1 Tryd.prog 99 := ⟨by kernel_rfl, by kernel_rfl⟩
instance : ZeroOf Tryd.prog 99 [.slice none 0 0] := ⟨by kernel_rfl⟩
instance : One1 Tryd.prog 100 := ⟨by kernel_rfl, by kernel_rfl⟩
instance : One1 Tryd.prog 101 := ⟨by kernel_rfl, by kernel_rfl⟩
instance : One1 Tryd.prog 102 := ⟨by kernel_rfl, by kernel_rfl⟩
instance : ZeroOf Tryd.prog 102 [v64 0#64] := ⟨by kernel_rfl⟩
instance : One1 Tryd.prog 103 := ⟨by kernel_rfl, by kernel_rfl⟩
instance : One1 Tryd.prog 104 := ⟨by kernel_rfl, by kernel_rfl⟩
instance : ZeroOf Tryd.prog 104 [v64 0#64] := ⟨by kernel_rfl⟩
instance : One1 Tryd.prog 105 := ⟨by kernel_rfl, by kernel_rfl⟩
instance : ZeroOf Tryd.prog 105 [.slice none 0 0] := ⟨by kernel_rfl⟩
instance : Many Tryd.prog 106 35 := ⟨by kernel_rfl, by kernel_rfl⟩
instance : ZeroOf Tryd.prog 106 ([.slice none 0 0, .slice none 0 0, .slice none 0 0] ++ ((zer (n := 8) 32).map v8)) := ⟨by kernel_rfl⟩
instance : Many Tryd.prog 107 35 := ⟨by kernel_rfl, by kernel_rfl⟩
instance : ZeroOf Tryd.prog 107 ([.slice none 0 0, .slice none 0 0, .slice none 0 0] ++ ((zer (n := 8) 32).map v8)) := ⟨by kernel_rfl⟩
instance : One1 Tryd.prog 108 := ⟨by kernel_rfl, by kernel_rfl⟩
instance : One1 Tryd.prog 109 := ⟨by kernel_rfl, by kernel_rfl⟩
instance : One1 Tryd.prog 110 := ⟨by kernel_rfl, by kernel_rfl⟩
instance : One1 Tryd.prog 111 := ⟨by kernel_rfl, by kernel_rfl⟩
instance : One1 Tryd.prog 112 := ⟨by kernel_rfl, by kernel_rfl⟩
instance : Many Tryd.prog 113 2 := ⟨by kernel_rfl, by kernel_rfl⟩
instance : ZeroOf Tryd.prog 113 ([.slice none 0 0, .slice none 0 0]) := ⟨by kernel_rfl⟩
instance : One1 Tryd.prog 114 := ⟨by kernel_rfl, by kernel_rfl⟩
instance : One1 Tryd.prog 116 := ⟨by kernel_rfl, by kernel_rfl⟩
instance : One1 Tryd.prog 117 := ⟨by kernel_rfl, by kernel_rfl⟩
instance : One1 Tryd.prog 118 := ⟨by kernel_rfl, by kernel_rfl⟩
instance : ZeroOf Tryd.prog 118 [v32 0#32] := ⟨by kernel_rfl⟩
instance : Many Tryd.prog 119 256 := ⟨by kernel_rfl, by kernel_rfl⟩
instance : ZeroOf Tryd.prog 119 ((zer (n := 32) 256).map v32) := ⟨by kernel_rfl⟩
instance : Many Tryd.prog 120 1024 := ⟨by kernel_rfl, by kernel_rfl⟩
instance : ZeroOf Tryd.prog 120 ((zer (n := 32) 1024).map v32) := ⟨by kernel_rfl⟩
instance : Many Tryd.prog 121 2049 := ⟨by kernel_rfl, by kernel_rfl⟩
instance : ZeroOf Tryd.prog 121 ([.pointer none] ++ ((zer (n := 32) 2048).map v32)) := ⟨by kernel_rfl⟩
instance : Many Tryd.prog 122 2049 := ⟨by kernel_rfl, by kernel_rfl⟩
instance : ZeroOf Tryd.prog 122 ([.pointer none] ++ ((zer (n := 32) 2048).map v32)) := ⟨by kernel_rfl⟩
instance : One1 Tryd.prog 123 := ⟨by kernel_rfl, by kernel_rfl⟩
instance : Many Tryd.prog 124 4 := ⟨by kernel_rfl, by kernel_rfl⟩
instance : ZeroOf Tryd.prog 124 ((zer (n := 8) 4).map v8) := ⟨by kernel_rfl⟩
instance : One1 Tryd.prog 125 := ⟨by kernel_rfl, by kernel_rfl⟩
instance : Many Tryd.prog 126 255 := ⟨by kernel_rfl, by kernel_rfl⟩
instance : ZeroOf Tryd.prog 126 ((zer (n := 8) 255).map v8) := ⟨by kernel_rfl⟩
instance : Many Tryd.prog 127 512 := ⟨by kernel_rfl, by kernel_rfl⟩
instance : ZeroOf Tryd.prog 127 ((zer (n := 8) 512).map v8) := ⟨by kernel_rfl⟩
instance : Many Tryd.prog 128 512 := ⟨by kernel_rfl, by kernel_rfl⟩
instance : ZeroOf Tryd.prog 128 ((zer (n := 8) 512).map v8) := ⟨by kernel_rfl⟩
instance : One1 Tryd.prog 129 := ⟨by kernel_rfl, by kernel_rfl⟩
instance : One1 Tryd.prog 130 := ⟨by kernel_rfl, by kernel_rfl⟩
instance : One1 Tryd.prog 131 := ⟨by kernel_rfl, by kernel_rfl⟩
instance : One1 Tryd.prog 132 := ⟨by kernel_rfl, by kernel_rfl⟩
instance : One1 Tryd.prog 133 := ⟨by kernel_rfl, by kernel_rfl⟩
instance : Many Tryd.prog 134 8 := ⟨by kernel_rfl, by kernel_rfl⟩
instance : ZeroOf Tryd.prog 134 ((zer (n := 64) 8).map v64) := ⟨by kernel_rfl⟩
instance : One1 Tryd.prog 135 := ⟨by kernel_rfl, by kernel_rfl⟩
instance : One1 Tryd.prog 136 := ⟨by kernel_rfl, by kernel_rfl⟩
instance : One1 Tryd.prog 137 := ⟨by kernel_rfl, by kernel_rfl⟩
instance : One1 Tryd.prog 138 := ⟨by kernel_rfl, by kernel_rfl⟩
instance : One1 Tryd.prog 139 := ⟨by kernel_rfl, by kernel_rfl⟩
instance : One1 Tryd.prog 140 := ⟨by kernel_rfl, by kernel_rfl⟩
instance : One1 Tryd.prog 141 := ⟨by kernel_rfl, by kernel_rfl⟩
instance : Many Tryd.prog 142 8 := ⟨by kernel_rfl, by kernel_rfl⟩
instance : ZeroOf Tryd.prog 142 ((zer (n := 8) 8).map v8) := ⟨by kernel_rfl⟩
instance : One1 Tryd.prog 143 := ⟨by kernel_rfl, by kernel_rfl⟩
instance : Many Tryd.prog 144 32 := ⟨by kernel_rfl, by kernel_rfl⟩
instance : ZeroOf Tryd.prog 144 ((zer (n := 8) 32).map v8) := ⟨by kernel_rfl⟩
instance : One1 Tryd.prog 145 := ⟨by kernel_rfl, by kernel_rfl⟩
instance : One1 Tryd.prog 146 := ⟨by kernel_rfl, by kernel_rfl⟩
instance : ZeroOf Tryd.prog 146 [.pointer none] := ⟨by kernel_rfl⟩
instance : One1 Tryd.prog 148 := ⟨by kernel_rfl, by kernel_rfl⟩
instance : One1 Tryd.prog 149 := ⟨by kernel_rfl, by kernel_rfl⟩
instance : One1 Tryd.prog 150 := ⟨by kernel_rfl, by kernel_rfl⟩
instance : One1 Tryd.prog 151 := ⟨by kernel_rfl, by kernel_rfl⟩
instance : One1 Tryd.prog 152 := ⟨by kernel_rfl, by kernel_rfl⟩
instance : One1 Tryd.prog 153 := ⟨by kernel_rfl, by kernel_rfl⟩
instance : Many Tryd.prog 154 256 := ⟨by kernel_rfl, by kernel_rfl⟩
instance : ZeroOf Tryd.prog 154 ((zer (n := 8) 256).map v8) := ⟨by kernel_rfl⟩
instance : One1 Tryd.prog 155 := ⟨by kernel_rfl, by kernel_rfl⟩
instance : One1 Tryd.prog 156 := ⟨by kernel_rfl, by kernel_rfl⟩
instance : One1 Tryd.prog 157 := ⟨by kernel_rfl, by kernel_rfl⟩
instance : Many Tryd.prog 158 16 := ⟨by kernel_rfl, by kernel_rfl⟩
instance : ZeroOf Tryd.prog 158 ((zer (n := 64) 16).map v64) := ⟨by kernel_rfl⟩
instance : One1 Tryd.prog 159 := ⟨by kernel_rfl, by kernel_rfl⟩
instance : Many Tryd.prog 160 16 := ⟨by kernel_rfl, by kernel_rfl⟩
instance : ZeroOf Tryd.prog 160 ([.int .i64 0, .int .i64 0, .int .i64 0, .int .i64 0, .int .i64 0, .int .i64 0, .int .i64 0, .int .i64 0, .int .i64 0, .int .i64 0, .int .i64 0, .int .i64 0, .int .i64 0, .int .i64 0, .int .i64 0, .int .i64 0]) := ⟨by kernel_rfl⟩
instance : One1 Tryd.prog 161 := ⟨by kernel_rfl, by kernel_rfl⟩
instance : One1 Tryd.prog 162 := ⟨by kernel_rfl, by kernel_rfl⟩
instance : One1 Tryd.prog 163 := ⟨by kernel_rfl, by kernel_rfl⟩
instance : One1 Tryd.prog 164 := ⟨by kernel_rfl, by kernel_rfl⟩
instance : Many Tryd.prog 165 2 := ⟨by kernel_rfl, by kernel_rfl⟩
instance : ZeroOf Tryd.prog 165 ([v64 0#64, v64 0#64]) := ⟨by kernel_rfl⟩
instance : Many Tryd.prog 166 2 := ⟨by kernel_rfl, by kernel_rfl⟩
instance : ZeroOf Tryd.prog 166 ([v64 0#64, v64 0#64]) := ⟨by kernel_rfl⟩
instance : Many Tryd.prog 167 12 := ⟨by kernel_rfl, by kernel_rfl⟩
instance : ZeroOf Tryd.prog 167 (((zer (n := 64) 10).map v64) ++ [.slice none 0 0, .int .i64 0]) := ⟨by kernel_rfl⟩
instance : Many Tryd.prog 168 12 := ⟨by kernel_rfl, by kernel_rfl⟩
instance : ZeroOf Tryd.prog 168 (((zer (n := 64) 10).map v64) ++ [.slice none 0 0, .int .i64 0]) := ⟨by kernel_rfl⟩
instance : One1 Tryd.prog 169 := ⟨by kernel_rfl, by kernel_rfl⟩
instance : One1 Tryd.prog 170 := ⟨by kernel_rfl, by kernel_rfl⟩
instance : One1 Tryd.prog 171 := ⟨by kernel_rfl, by kernel_rfl⟩
instance : One1 Tryd.prog 172 := ⟨by kernel_rfl, by kernel_rfl⟩
instance : One1 Tryd.prog 173 := ⟨by kernel_rfl, by kernel_rfl⟩
instance : One1 Tryd.prog 174 := ⟨by kernel_rfl, by kernel_rfl⟩
instance : One1 Tryd.prog 175 := ⟨by kernel_rfl, by kernel_rfl⟩
instance : One1 Tryd.prog 176 := ⟨by kernel_rfl, by kernel_rfl⟩
instance : Many Tryd.prog 177 128 := ⟨by kernel_rfl, by kernel_rfl⟩
instance : ZeroOf Tryd.prog 177 ((zer (n := 8) 128).map v8) := ⟨by kernel_rfl⟩
instance : One1 Tryd.prog 178 := ⟨by kernel_rfl, by kernel_rfl⟩
instance : One1 Tryd.prog 179 := ⟨by kernel_rfl, by kernel_rfl⟩
instance : One1 Tryd.prog 181 := ⟨by kernel_rfl, by kernel_rfl⟩
instance : One1 Tryd.prog 182 := ⟨by kernel_rfl, by kernel_rfl⟩
instance : Many Tryd.prog 183 160 := ⟨by kernel_rfl, by kernel_rfl⟩
instance : ZeroOf Tryd.prog 183 ((zer (n := 8) 160).map v8) := ⟨by kernel_rfl⟩
instance : One1 Tryd.prog 184 := ⟨by kernel_rfl, by kernel_rfl⟩
instance : One1 Tryd.prog 185 := ⟨by kernel_rfl, by kernel_rfl⟩
instance : ZeroOf Tryd.prog 185 [.pointer none] := ⟨by kernel_rfl⟩
instance : One1 Tryd.prog 186 := ⟨by kernel_rfl, by kernel_rfl⟩
instance : One1 Tryd.prog 187 := ⟨by kernel_rfl, by kernel_rfl⟩
instance : One1 Tryd.prog 188 := ⟨by kernel_rfl, by kernel_rfl⟩
instance : Many Tryd.prog 189 4 := ⟨by kernel_rfl, by kernel_rfl⟩
instance : ZeroOf Tryd.prog 189 ([.pointer none, .pointer none, .pointer none, .string ⟨#[]⟩]) := ⟨by kernel_rfl⟩
instance : Many Tryd.prog 192 0 := ⟨by kernel_rfl, by kernel_rfl⟩
instance : ZeroOf Tryd.prog 192 ([]) := ⟨by kernel_rfl⟩
instance : One1 Tryd.prog 194 := ⟨by kernel_rfl, by kernel_rfl⟩
instance : One1 Tryd.prog 197 := ⟨by kernel_rfl, by kernel_rfl⟩
instance : One1 Tryd.prog 198 := ⟨by kernel_rfl, by kernel_rfl⟩
instance : ZeroOf Tryd.prog 198 [.pointer none] := ⟨by kernel_rfl⟩
instance : Many Tryd.prog 201 11 := ⟨by kernel_rfl, by kernel_rfl⟩
instance : ZeroOf Tryd.prog 201 ([v64 0#64, v64 0#64, v32 0#32] ++ ((zer (n := 8) 4).map v8) ++ [.nilFunc, .pointer none, .int .i32 0, .int .i32 0]) := ⟨by kernel_rfl⟩
instance : One1 Tryd.prog 203 := ⟨by kernel_rfl, by kernel_rfl⟩
@[go_sem] theorem cv2_5 (n : Int) (w : World) : (convert 2 5 (.int .i64 n)).run Tryd.prog w = .ok (v8 (BitVec.ofInt 8 n)) w := conv_int8 n _ _ _ _ w rfl rfl
@[go_sem] theorem cv2_12 (n : Int) (w : World) : (convert 2 12 (.int .i64 n)).run Tryd.prog w = .ok (v64 (BitVec.ofInt 64 n)) w := conv_int64 n _ _ _ _ w rfl rfl
@[go_sem] theorem cv2_45 (n : Int) (w : World) : (convert 2 45 (.int .i64 n)).run Tryd.prog w = .ok (v16 (BitVec.ofInt 16 n)) w := conv_int16 n _ _ _ _ w rfl rfl
@[go_sem] theorem cv2_102 (n : Int) (w : World) : (convert 2 102 (.int .i64 n)).run Tryd.prog w = .ok (v64 (BitVec.ofInt 64 n)) w := conv_int64 n _ _ _ _ w rfl rfl
@[go_sem] theorem cv2_104 (n : Int) (w : World) : (convert 2 104 (.int .i64 n)).run Tryd.prog w = .ok (v64 (BitVec.ofInt 64 n)) w := conv_int64 n _ _ _ _ w rfl rfl
@[go_sem] theorem cv2_118 (n : Int) (w : World) : (convert 2 118 (.int .i64 n)).run Tryd.prog w = .ok (v32 (BitVec.ofInt 32 n)) w := conv_int32 n _ _ _ _ w rfl rfl
@[go_sem] theorem cv3_5 (n : Int) (w : World) : (convert 3 5 (.int .i64 n)).run Tryd.prog w = .ok (v8 (BitVec.ofInt 8 n)) w := conv_int8 n _ _ _ _ w rfl rfl
@[go_sem] theorem cv3_12 (n : Int) (w : World) : (convert 3 12 (.int .i64 n)).run Tryd.prog w = .ok (v64 (BitVec.ofInt 64 n)) w := conv_int64 n _ _ _ _ w rfl rfl
@[go_sem] theorem cv3_45 (n : Int) (w : World) : (convert 3 45 (.int .i64 n)).run Tryd.prog w = .ok (v16 (BitVec.ofInt 16 n)) w := conv_int16 n _ _ _ _ w rfl rfl
@[go_sem] theorem cv3_102 (n : Int) (w : World) : (convert 3 102 (.int .i64 n)).run Tryd.prog w = .ok (v64 (BitVec.ofInt 64 n)) w := conv_int64 n _ _ _ _ w rfl rfl
@[go_sem] theorem cv3_104 (n : Int) (w : World) : (convert 3 104 (.int .i64 n)).run Tryd.prog w = .ok (v64 (BitVec.ofInt 64 n)) w := conv_int64 n _ _ _ _ w rfl rfl
@[go_sem] theorem cv3_118 (n : Int) (w : World) : (convert 3 118 (.int .i64 n)).run Tryd.prog w = .ok (v32 (BitVec.ofInt 32 n)) w := conv_int32 n _ _ _ _ w rfl rfl
@[go_sem] theorem cv5_2 (x : BitVec 8) (w : World) : (convert 5 2 (v8 x)).run Tryd.prog w = .ok (.int .i64 x.toNat) w := conv8_i64 x _ _ _ w rfl rfl
@[go_sem] theorem cv5_3 (x : BitVec 8) (w : World) : (convert 5 3 (v8 x)).run Tryd.prog w = .ok (.int .i64 x.toNat) w := conv8_i64 x _ _ _ w rfl rfl
@[go_sem] theorem cv5_12 (x : BitVec 8) (w : World) : (convert 5 12 (v8 x)).run Tryd.prog w = .ok (v64 (x.setWidth 64)) w := conv8_64 x _ _ _ w rfl rfl
@[go_sem] theorem cv5_45 (x : BitVec 8) (w : World) : (convert 5 45 (v8 x)).run Tryd.prog w = .ok (v16 (x.setWidth 16)) w := conv8_16 x _ _ _ w rfl rfl
@[go_sem] theorem cv5_52 (x : BitVec 8) (w : World) : (convert 5 52 (v8 x)).run Tryd.prog w = .ok (.int .i64 x.toNat) w := conv8_i64 x _ _ _ w rfl rfl
@[go_sem] theorem cv5_102 (x : BitVec 8) (w : World) : (convert 5 102 (v8 x)).run Tryd.prog w = .ok (v64 (x.setWidth 64)) w := conv8_64 x _ _ _ w rfl rfl
@[go_sem] theorem cv5_104 (x : BitVec 8) (w : World) : (convert 5 104 (v8 x)).run Tryd.prog w = .ok (v64 (x.setWidth 64)) w := conv8_64 x _ _ _ w rfl rfl
@[go_sem] theorem cv5_118 (x : BitVec 8) (w : World) : (convert 5 118 (v8 x)).run Tryd.prog w = .ok (v32 (x.setWidth 32)) w := conv8_32 x _ _ _ w rfl rfl
@[go_sem] theorem cv12_5 (x : BitVec 64) (w : World) : (convert 12 5 (v64 x)).run Tryd.prog w = .ok (v8 (x.setWidth 8)) w := conv64_8 x _ _ _ w rfl rfl
@[go_sem] theorem cv12_45 (x : BitVec 64) (w : World) : (convert 12 45 (v64 x)).run Tryd.prog w = .ok (v16 (x.setWidth 16)) w := conv64_16 x _ _ _ w rfl rfl
@[go_sem] theorem cv12_102 (x : BitVec 64) (w : World) : (convert 12 102 (v64 x)).run Tryd.prog w = .ok (v64 x) w := conv64_64 x _ _ _ w rfl rfl
@[go_sem] theorem cv12_104 (x : BitVec 64) (w : World) : (convert 12 104 (v64 x)).run Tryd.prog w = .ok (v64 x) w := conv64_64 x _ _ _ w rfl rfl
@[go_sem] theorem cv12_118 (x : BitVec 64) (w : World) : (convert 12 118 (v64 x)).run Tryd.prog w = .ok (v32 (x.setWidth 32)) w := conv64_32 x _ _ _ w rfl rfl
@[go_sem] theorem cv45_2 (x : BitVec 16) (w : World) : (convert 45 2 (v16 x)).run Tryd.prog w = .ok (.int .i64 x.toNat) w := conv16_i64 x _ _ _ w rfl rfl
@[go_sem] theorem cv45_3 (x : BitVec 16) (w : World) : (convert 45 3 (v16 x)).run Tryd.prog w = .ok (.int .i64 x.toNat) w := conv16_i64 x _ _ _ w rfl rfl
@[go_sem] theorem cv45_5 (x : BitVec 16) (w : World) : (convert 45 5 (v16 x)).run Tryd.prog w = .ok (v8 (x.setWidth 8)) w := conv16_8 x _ _ _ w rfl rfl
@[go_sem] theorem cv45_12 (x : BitVec 16) (w : World) : (convert 45 12 (v16 x)).run Tryd.prog w = .ok (v64 (x.setWidth 64)) w := conv16_64 x _ _ _ w rfl rfl
@[go_sem] theorem cv45_52 (x : BitVec 16) (w : World) : (convert 45 52 (v16 x)).run Tryd.prog w = .ok (.int .i64 x.toNat) w := conv16_i64 x _ _ _ w rfl rfl
@[go_sem] theorem cv45_102 (x : BitVec 16) (w : World) : (convert 45 102 (v16 x)).run Tryd.prog w = .ok (v64 (x.setWidth 64)) w := conv16_64 x _ _ _ w rfl rfl
@[go_sem] theorem cv45_104 (x : BitVec 16) (w : World) : (convert 45 104 (v16 x)).run Tryd.prog w = .ok (v64 (x.setWidth 64)) w := conv16_64 x _ _ _ w rfl rfl
@[go_sem] theorem cv45_118 (x : BitVec 16) (w : World) : (convert 45 118 (v16 x)).run Tryd.prog w = .ok (v32 (x.setWidth 32)) w := conv16_32 x _ _ _ w rfl rfl
@[go_sem] theorem cv52_5 (n : Int) (w : World) : (convert 52 5 (.int .i64 n)).run Tryd.prog w = .ok (v8 (BitVec.ofInt 8 n)) w := conv_int8 n _ _ _ _ w rfl rfl
@[go_sem] theorem cv52_12 (n : Int) (w : World) : (convert 52 12 (.int .i64 n)).run Tryd.prog w = .ok (v64 (BitVec.ofInt 64 n)) w := conv_int64 n _ _ _ _ w rfl rfl
@[go_sem] theorem cv52_45 (n : Int) (w : World) : (convert 52 45 (.int .i64 n)).run Tryd.prog w = .ok (v16 (BitVec.ofInt 16 n)) w := conv_int16 n _ _ _ _ w rfl rfl
@[go_sem] theorem cv52_102 (n : Int) (w : World) : (convert 52 102 (.int .i64 n)).run Tryd.prog w = .ok (v64 (BitVec.ofInt 64 n)) w := conv_int64 n _ _ _ _ w rfl rfl
@[go_sem] theorem cv52_104 (n : Int) (w : World) : (convert 52 104 (.int .i64 n)).run Tryd.prog w = .ok (v64 (BitVec.ofInt 64 n)) w := conv_int64 n _ _ _ _ w rfl rfl
@[go_sem] theorem cv52_118 (n : Int) (w : World) : (convert 52 118 (.int .i64 n)).run Tryd.prog w = .ok (v32 (BitVec.ofInt 32 n)) w := conv_int32 n _ _ _ _ w rfl rfl
@[go_sem] theorem cv102_5 (x : BitVec 64) (w : World) : (convert 102 5 (v64 x)).run Tryd.prog w = .ok (v8 (x.setWidth 8)) w := conv64_8 x _ _ _ w rfl rfl
@[go_sem] theorem cv102_12 (x : BitVec 64) (w : World) : (convert 102 12 (v64 x)).run Tryd.prog w = .ok (v64 x) w := conv64_64 x _ _ _ w rfl rfl
@[go_sem] theorem cv102_45 (x : BitVec 64) (w : World) : (convert 102 45 (v64 x)).run Tryd.prog w = .ok (v16 (x.setWidth 16)) w := conv64_16 x _ _ _ w rfl rfl
@[go_sem] theorem cv102_104 (x : BitVec 64) (w : World) : (convert 102 104 (v64 x)).run Tryd.prog w = .ok (v64 x) w := conv64_64 x _ _ _ w rfl rfl
@[go_sem] theorem cv102_118 (x : BitVec 64) (w : World) : (convert 102 118 (v64 x)).run Tryd.prog w = .ok (v32 (x.setWidth 32)) w := conv64_32 x _ _ _ w rfl rfl
@[go_sem] theorem cv104_5 (x : BitVec 64) (w : World) : (convert 104 5 (v64 x)).run Tryd.prog w = .ok (v8 (x.setWidth 8)) w := conv64_8 x _ _ _ w rfl rfl
@[go_sem] theorem cv104_12 (x : BitVec 64) (w : World) : (convert 104 12 (v64 x)).run Tryd.prog w = .ok (v64 x) w := conv64_64 x _ _ _ w rfl rfl
@[go_sem] theorem cv104_45 (x : BitVec 64) (w : World) : (convert 104 45 (v64 x)).run Tryd.prog w = .ok (v16 (x.setWidth 16)) w := conv64_16 x _ _ _ w rfl rfl
@[go_sem] theorem cv104_102 (x : BitVec 64) (w : World) : (convert 104 102 (v64 x)).run Tryd.prog w = .ok (v64 x) w := conv64_64 x _ _ _ w rfl rfl
@[go_sem] theorem cv104_118 (x : BitVec 64) (w : World) : (convert 104 118 (v64 x)).run Tryd.prog w = .ok (v32 (x.setWidth 32)) w := conv64_32 x _ _ _ w rfl rfl
@[go_sem] theorem cv118_2 (x : BitVec 32) (w : World) : (convert 118 2 (v32 x)).run Tryd.prog w = .ok (.int .i64 x.toNat) w := conv32_i64 x _ _ _ w rfl rfl
@[go_sem] theorem cv118_3 (x : BitVec 32) (w : World) : (convert 118 3 (v32 x)).run Tryd.prog w = .ok (.int .i64 x.toNat) w := conv32_i64 x _ _ _ w rfl rfl
@[go_sem] theorem cv118_5 (x : BitVec 32) (w : World) : (convert 118 5 (v32 x)).run Tryd.prog w = .ok (v8 (x.setWidth 8)) w := conv32_8 x _ _ _ w rfl rfl
@[go_sem] theorem cv118_12 (x : BitVec 32) (w : World) : (convert 118 12 (v32 x)).run Tryd.prog w = .ok (v64 (x.setWidth 64)) w := conv32_64 x _ _ _ w rfl rfl
@[go_sem] theorem cv118_45 (x : BitVec 32) (w : World) : (convert 118 45 (v32 x)).run Tryd.prog w = .ok (v16 (x.setWidth 16)) w := conv32_16 x _ _ _ w rfl rfl
@[go_sem] theorem cv118_52 (x : BitVec 32) (w : World) : (convert 118 52 (v32 x)).run Tryd.prog w = .ok (.int .i64 x.toNat) w := conv32_i64 x _ _ _ w rfl rfl
@[go_sem] theorem cv118_102 (x : BitVec 32) (w : World) : (convert 118 102 (v32 x)).run Tryd.prog w = .ok (v64 (x.setWidth 64)) w := conv32_64 x _ _ _ w rfl rfl
@[go_sem] theorem cv118_104 (x : BitVec 32) (w : World) : (convert 118 104 (v32 x)).run Tryd.prog w = .ok (v64 (x.setWidth 64)) w := conv32_64 x _ _ _ w rfl rfl

end Go.Proofs.YtmgopjeaehmbfaaDoor
