import Derived.Test.YtkcmjgjfodipfaaGreatA06
import Derived.Test.YtkcmjgjfodipfaaGreatRows
/- The instances of this seat's dump: what its tables say of each type, each field, each function. By program (wip/gen/inst.py). -/
namespace Go.Proofs.YtkcmjgjfodipfaaGreat
open Go Go.Sep Go.Proofs
instance : Ty Tryz.prog 3 false 1 8 [.int .i64 0] := ⟨⟨_, Tryz.underlying3, rfl⟩, by kernel_rfl⟩
instance : TyD Tryz.prog 3 (.int .i64) := ⟨Tryz.underlying3⟩
instance : Ty Tryz.prog 4 false 1 1 [.bool false] := ⟨⟨_, Tryz.underlying4, rfl⟩, by kernel_rfl⟩
instance : Ty Tryz.prog 5 false 1 1 [.int .u8 0] := ⟨⟨_, Tryz.underlying5, rfl⟩, by kernel_rfl⟩
instance : TyD Tryz.prog 5 (.int .u8) := ⟨Tryz.underlying5⟩
instance : Ty Tryz.prog 9 false 1 16 [.string ⟨#[]⟩] := ⟨⟨_, Tryz.underlying9, rfl⟩, by kernel_rfl⟩
instance : TyD Tryz.prog 9 .string := ⟨Tryz.underlying9⟩
instance : Ty Tryz.prog 23 true 9 72 [.int .i64 0, .int .i64 0, .int .i64 0, .int .i64 0, .int .i64 0, .int .i64 0, .int .i64 0, .int .i64 0, .int .i64 0] := ⟨⟨_, Tryz.underlying23, rfl⟩, by kernel_rfl⟩
instance : Ty Tryz.prog 24 false 1 8 [.int .i64 0] := ⟨⟨_, Tryz.underlying24, rfl⟩, by kernel_rfl⟩
instance : TyD Tryz.prog 30 (.pointer 42) := ⟨Tryz.underlying30⟩
instance : Ty Tryz.prog 35 false 1 8 [.pointer none] := ⟨⟨_, Tryz.underlying35, rfl⟩, by kernel_rfl⟩
instance : Ty Tryz.prog 37 false 1 24 [.slice none 0 0] := ⟨⟨_, Tryz.underlying37, rfl⟩, by kernel_rfl⟩
instance : TyD Tryz.prog 37 (.slice 51) := ⟨Tryz.underlying37⟩
instance : Ty Tryz.prog 38 false 1 24 [.slice none 0 0] := ⟨⟨_, Tryz.underlying38, rfl⟩, by kernel_rfl⟩
instance : TyD Tryz.prog 38 (.slice 3) := ⟨Tryz.underlying38⟩
instance : Ty Tryz.prog 39 false 1 8 [.pointer none] := ⟨⟨_, Tryz.underlying39, rfl⟩, by kernel_rfl⟩
instance : Ty Tryz.prog 42 true 14 160 [.int .i64 0, .int .i64 0, .int .i64 0, .int .i64 0, .int .i64 0, .int .i64 0, .int .i64 0, .int .i64 0, .int .i64 0, .pointer none, .pointer none, .slice none 0 0, .slice none 0 0, .slice none 0 0] := ⟨⟨_, Tryz.underlying42, rfl⟩, by kernel_rfl⟩
instance : Ty Tryz.prog 45 false 1 8 [.pointer none] := ⟨⟨_, Tryz.underlying45, rfl⟩, by kernel_rfl⟩
instance : Ty Tryz.prog 49 true 1 8 [.pointer none] := ⟨⟨_, Tryz.underlying49, rfl⟩, by kernel_rfl⟩
instance : Ty Tryz.prog 51 false 1 16 [.nilIface] := ⟨⟨_, Tryz.underlying51, rfl⟩, by kernel_rfl⟩
instance : Ty Tryz.prog 55 true 1 8 [.pointer none] := ⟨⟨_, Tryz.underlying55, rfl⟩, by kernel_rfl⟩
instance : Ty Tryz.prog 57 false 1 8 [.pointer none] := ⟨⟨_, Tryz.underlying57, rfl⟩, by kernel_rfl⟩
instance : Ty Tryz.prog 66 false 1 24 [.slice none 0 0] := ⟨⟨_, Tryz.underlying66, rfl⟩, by kernel_rfl⟩
instance : TyD Tryz.prog 66 (.slice 109) := ⟨Tryz.underlying66⟩
instance : Ty Tryz.prog 68 true 2 32 [.slice none 0 0, .int .i64 0] := ⟨⟨_, Tryz.underlying68, rfl⟩, by kernel_rfl⟩
instance : Ty Tryz.prog 69 false 1 24 [.slice none 0 0] := ⟨⟨_, Tryz.underlying69, rfl⟩, by kernel_rfl⟩
instance : TyD Tryz.prog 69 (.slice 205) := ⟨Tryz.underlying69⟩
instance : Ty Tryz.prog 70 false 1 24 [.slice none 0 0] := ⟨⟨_, Tryz.underlying70, rfl⟩, by kernel_rfl⟩
instance : TyD Tryz.prog 70 (.slice 208) := ⟨Tryz.underlying70⟩
instance : Ty Tryz.prog 72 true 5 72 [.slice none 0 0, .slice none 0 0, .int .i64 0, .int .i64 0, .bool false] := ⟨⟨_, Tryz.underlying72, rfl⟩, by kernel_rfl⟩
instance : Ty Tryz.prog 77 true 2 32 [.map none, .slice none 0 0] := ⟨⟨_, Tryz.underlying77, rfl⟩, by kernel_rfl⟩
instance : Ty Tryz.prog 78 false 1 8 [.pointer none] := ⟨⟨_, Tryz.underlying78, rfl⟩, by kernel_rfl⟩
instance : Ty Tryz.prog 82 true 3 24 [.pointer none, .int .i64 0, .int .i64 0] := ⟨⟨_, Tryz.underlying82, rfl⟩, by kernel_rfl⟩
instance : Ty Tryz.prog 83 false 1 24 [.slice none 0 0] := ⟨⟨_, Tryz.underlying83, rfl⟩, by kernel_rfl⟩
instance : TyD Tryz.prog 83 (.slice 120) := ⟨Tryz.underlying83⟩
instance : Ty Tryz.prog 85 true 2 32 [.int .i64 0, .slice none 0 0] := ⟨⟨_, Tryz.underlying85, rfl⟩, by kernel_rfl⟩
instance : Ty Tryz.prog 86 false 1 24 [.slice none 0 0] := ⟨⟨_, Tryz.underlying86, rfl⟩, by kernel_rfl⟩
instance : TyD Tryz.prog 86 (.slice 199) := ⟨Tryz.underlying86⟩
instance : Ty Tryz.prog 87 false 1 24 [.slice none 0 0] := ⟨⟨_, Tryz.underlying87, rfl⟩, by kernel_rfl⟩
instance : TyD Tryz.prog 87 (.slice 123) := ⟨Tryz.underlying87⟩
instance : Ty Tryz.prog 88 false 1 24 [.slice none 0 0] := ⟨⟨_, Tryz.underlying88, rfl⟩, by kernel_rfl⟩
instance : TyD Tryz.prog 88 (.slice 102) := ⟨Tryz.underlying88⟩
instance : Ty Tryz.prog 89 false 1 24 [.slice none 0 0] := ⟨⟨_, Tryz.underlying89, rfl⟩, by kernel_rfl⟩
instance : TyD Tryz.prog 89 (.slice 115) := ⟨Tryz.underlying89⟩
instance : Ty Tryz.prog 91 true 15 200 [.int .i64 0, .int .i64 0, .int .i64 0, .int .i64 0, .int .i64 0, .int .i64 0, .int .i64 0, .int .i64 0, .int .i64 0, .int .i64 0, .slice none 0 0, .slice none 0 0, .slice none 0 0, .slice none 0 0, .slice none 0 0] := ⟨⟨_, Tryz.underlying91, rfl⟩, by kernel_rfl⟩
instance : TyD Tryz.prog 98 (.int .u64) := ⟨Tryz.underlying98⟩
instance : Ty Tryz.prog 102 true 20 160 [.int .i64 0, .int .i64 0, .int .i64 0, .int .i64 0, .bool false, .int .i64 0, .int .i64 0, .int .i64 0, .int .i64 0, .bool false, .int .i64 0, .int .u64 0, .int .i64 0, .int .i64 0, .int .i64 0, .int .i64 0, .int .i64 0, .int .i64 0, .int .i64 0, .int .i64 0] := ⟨⟨_, Tryz.underlying102, rfl⟩, by kernel_rfl⟩
instance : Ty Tryz.prog 107 true 2 16 [.int .i64 0, .int .i64 0] := ⟨⟨_, Tryz.underlying107, rfl⟩, by kernel_rfl⟩
instance : Ty Tryz.prog 109 true 6 56 [.int .i64 0, .int .i64 0, .int .i64 0, .int .i64 0, .int .i64 0, .string ⟨#[]⟩] := ⟨⟨_, Tryz.underlying109, rfl⟩, by kernel_rfl⟩
instance : Ty Tryz.prog 117 true 8 64 [.int .i64 0, .int .i64 0, .int .i64 0, .int .i64 0, .int .i64 0, .int .i64 0, .int .i64 0, .int .u64 0] := ⟨⟨_, Tryz.underlying117, rfl⟩, by kernel_rfl⟩
instance : Ty Tryz.prog 118 false 1 24 [.slice none 0 0] := ⟨⟨_, Tryz.underlying118, rfl⟩, by kernel_rfl⟩
instance : TyD Tryz.prog 118 (.slice 9) := ⟨Tryz.underlying118⟩
instance : Ty Tryz.prog 120 true 10 104 [.int .i64 0, .int .i64 0, .int .i64 0, .int .i64 0, .int .i64 0, .int .i64 0, .int .i64 0, .int .u64 0, .string ⟨#[]⟩, .slice none 0 0] := ⟨⟨_, Tryz.underlying120, rfl⟩, by kernel_rfl⟩
instance : Ty Tryz.prog 123 true 5 48 [.int .i64 0, .int .i64 0, .int .i64 0, .int .i64 0, .string ⟨#[]⟩] := ⟨⟨_, Tryz.underlying123, rfl⟩, by kernel_rfl⟩
instance : Ty Tryz.prog 142 true 4 32 [.int .i64 0, .int .i64 0, .int .i64 0, .int .i64 0] := ⟨⟨_, Tryz.underlying142, rfl⟩, by kernel_rfl⟩
instance : Ty Tryz.prog 150 false 1 8 [.pointer none] := ⟨⟨_, Tryz.underlying150, rfl⟩, by kernel_rfl⟩
instance : TyD Tryz.prog 150 (.pointer 257) := ⟨Tryz.underlying150⟩
instance : Ty Tryz.prog 153 false 1 8 [.pointer none] := ⟨⟨_, Tryz.underlying153, rfl⟩, by kernel_rfl⟩
instance : Ty Tryz.prog 154 false 1 8 [.pointer none] := ⟨⟨_, Tryz.underlying154, rfl⟩, by kernel_rfl⟩
instance : Ty Tryz.prog 155 false 1 8 [.pointer none] := ⟨⟨_, Tryz.underlying155, rfl⟩, by kernel_rfl⟩
instance : Ty Tryz.prog 156 false 1 8 [.map none] := ⟨⟨_, Tryz.underlying156, rfl⟩, by kernel_rfl⟩
instance : Ty Tryz.prog 158 true 4 32 [.pointer none, .pointer none, .pointer none, .map none] := ⟨⟨_, Tryz.underlying158, rfl⟩, by kernel_rfl⟩
instance : Ty Tryz.prog 162 true 18 160 [.pointer none, .pointer none, .pointer none, .map none, .int .i64 0, .int .i64 0, .int .i64 0, .int .i64 0, .int .i64 0, .int .i64 0, .int .i64 0, .int .i64 0, .int .i64 0, .pointer none, .pointer none, .pointer none, .slice none 0 0, .bool false] := ⟨⟨_, Tryz.underlying162, rfl⟩, by kernel_rfl⟩
instance : Ty Tryz.prog 165 true 2 16 [.int .i64 0, .int .i64 0] := ⟨⟨_, Tryz.underlying165, rfl⟩, by kernel_rfl⟩
instance : TyD Tryz.prog 165 (.array 2 3) := ⟨Tryz.underlying165⟩
instance : TyD Tryz.prog 166 (.slice 165) := ⟨Tryz.underlying166⟩
instance : Ty Tryz.prog 167 false 1 8 [.pointer none] := ⟨⟨_, Tryz.underlying167, rfl⟩, by kernel_rfl⟩
instance : Ty Tryz.prog 168 false 1 8 [.pointer none] := ⟨⟨_, Tryz.underlying168, rfl⟩, by kernel_rfl⟩
instance : TyD Tryz.prog 168 (.pointer 227) := ⟨Tryz.underlying168⟩
instance : Ty Tryz.prog 170 true 14 128 [.int .i64 0, .int .i64 0, .int .i64 0, .int .i64 0, .int .i64 0, .int .i64 0, .int .i64 0, .int .i64 0, .int .i64 0, .int .i64 0, .int .i64 0, .pointer none, .pointer none, .slice none 0 0] := ⟨⟨_, Tryz.underlying170, rfl⟩, by kernel_rfl⟩
instance : Ty Tryz.prog 184 false 1 8 [.pointer none] := ⟨⟨_, Tryz.underlying184, rfl⟩, by kernel_rfl⟩
instance : Ty Tryz.prog 199 true 5 40 [.int .i64 0, .int .i64 0, .int .i64 0, .int .i64 0, .int .i64 0] := ⟨⟨_, Tryz.underlying199, rfl⟩, by kernel_rfl⟩
instance : Ty Tryz.prog 205 true 128 128 [.int .u8 0, .int .u8 0, .int .u8 0, .int .u8 0, .int .u8 0, .int .u8 0, .int .u8 0, .int .u8 0, .int .u8 0, .int .u8 0, .int .u8 0, .int .u8 0, .int .u8 0, .int .u8 0, .int .u8 0, .int .u8 0, .int .u8 0, .int .u8 0, .int .u8 0, .int .u8 0, .int .u8 0, .int .u8 0, .int .u8 0, .int .u8 0, .int .u8 0, .int .u8 0, .int .u8 0, .int .u8 0, .int .u8 0, .int .u8 0, .int .u8 0, .int .u8 0, .int .u8 0, .int .u8 0, .int .u8 0, .int .u8 0, .int .u8 0, .int .u8 0, .int .u8 0, .int .u8 0, .int .u8 0, .int .u8 0, .int .u8 0, .int .u8 0, .int .u8 0, .int .u8 0, .int .u8 0, .int .u8 0, .int .u8 0, .int .u8 0, .int .u8 0, .int .u8 0, .int .u8 0, .int .u8 0, .int .u8 0, .int .u8 0, .int .u8 0, .int .u8 0, .int .u8 0, .int .u8 0, .int .u8 0, .int .u8 0, .int .u8 0, .int .u8 0, .int .u8 0, .int .u8 0, .int .u8 0, .int .u8 0, .int .u8 0, .int .u8 0, .int .u8 0, .int .u8 0, .int .u8 0, .int .u8 0, .int .u8 0, .int .u8 0, .int .u8 0, .int .u8 0, .int .u8 0, .int .u8 0, .int .u8 0, .int .u8 0, .int .u8 0, .int .u8 0, .int .u8 0, .int .u8 0, .int .u8 0, .int .u8 0, .int .u8 0, .int .u8 0, .int .u8 0, .int .u8 0, .int .u8 0, .int .u8 0, .int .u8 0, .int .u8 0, .int .u8 0, .int .u8 0, .int .u8 0, .int .u8 0, .int .u8 0, .int .u8 0, .int .u8 0, .int .u8 0, .int .u8 0, .int .u8 0, .int .u8 0, .int .u8 0, .int .u8 0, .int .u8 0, .int .u8 0, .int .u8 0, .int .u8 0, .int .u8 0, .int .u8 0, .int .u8 0, .int .u8 0, .int .u8 0, .int .u8 0, .int .u8 0, .int .u8 0, .int .u8 0, .int .u8 0, .int .u8 0, .int .u8 0, .int .u8 0, .int .u8 0, .int .u8 0] := ⟨⟨_, Tryz.underlying205, rfl⟩, by kernel_rfl⟩
instance : TyD Tryz.prog 205 (.array 128 5) := ⟨Tryz.underlying205⟩
instance : Ty Tryz.prog 208 true 2 24 [.int .i64 0, .string ⟨#[]⟩] := ⟨⟨_, Tryz.underlying208, rfl⟩, by kernel_rfl⟩
instance : Ty Tryz.prog 233 false 1 24 [.slice none 0 0] := ⟨⟨_, Tryz.underlying233, rfl⟩, by kernel_rfl⟩
instance : TyD Tryz.prog 233 (.slice 5) := ⟨Tryz.underlying233⟩
instance : Ty Tryz.prog 237 true 7 56 [.pointer none, .int .i64 0, .int .i64 0, .int .i64 0, .int .i64 0, .int .i64 0, .bool false] := ⟨⟨_, Tryz.underlying237, rfl⟩, by kernel_rfl⟩
instance : Ty Tryz.prog 245 false 1 8 [.pointer none] := ⟨⟨_, Tryz.underlying245, rfl⟩, by kernel_rfl⟩
instance : TyD Tryz.prog 245 (.pointer 247) := ⟨Tryz.underlying245⟩
instance : Ty Tryz.prog 247 true 2 32 [.pointer none, .slice none 0 0] := ⟨⟨_, Tryz.underlying247, rfl⟩, by kernel_rfl⟩
instance : Ty Tryz.prog 252 false 1 8 [.pointer none] := ⟨⟨_, Tryz.underlying252, rfl⟩, by kernel_rfl⟩
instance : Ty Tryz.prog 254 true 1 8 [.pointer none] := ⟨⟨_, Tryz.underlying254, rfl⟩, by kernel_rfl⟩
instance : Ty Tryz.prog 255 false 1 24 [.slice none 0 0] := ⟨⟨_, Tryz.underlying255, rfl⟩, by kernel_rfl⟩
instance : TyD Tryz.prog 255 (.slice 118) := ⟨Tryz.underlying255⟩
instance : Ty Tryz.prog 257 true 4 64 [.pointer none, .int .i64 0, .slice none 0 0, .slice none 0 0] := ⟨⟨_, Tryz.underlying257, rfl⟩, by kernel_rfl⟩
instance : Ty Tryz.prog 258 false 1 24 [.slice none 0 0] := ⟨⟨_, Tryz.underlying258, rfl⟩, by kernel_rfl⟩
instance : TyD Tryz.prog 258 (.slice 117) := ⟨Tryz.underlying258⟩
instance : Ty Tryz.prog 277 true 16 144 [.int .i64 0, .int .i64 0, .int .i64 0, .int .i64 0, .int .i64 0, .int .i64 0, .int .i64 0, .int .i64 0, .int .u64 0, .string ⟨#[]⟩, .string ⟨#[]⟩, .int .i64 0, .int .i64 0, .int .i64 0, .int .i64 0, .int .i64 0] := ⟨⟨_, Tryz.underlying277, rfl⟩, by kernel_rfl⟩
instance : Ty Tryz.prog 286 true 3 32 [.string ⟨#[]⟩, .int .i64 0, .int .i64 0] := ⟨⟨_, Tryz.underlying286, rfl⟩, by kernel_rfl⟩
instance : Ty Tryz.prog 302 false 1 8 [.map none] := ⟨⟨_, Tryz.underlying302, rfl⟩, by kernel_rfl⟩
instance : TyD Tryz.prog 302 (.map 3 199) := ⟨Tryz.underlying302⟩
instance : Ty Tryz.prog 304 true 2 16 [.int .i64 0, .map none] := ⟨⟨_, Tryz.underlying304, rfl⟩, by kernel_rfl⟩
instance : Ty Tryz.prog 308 true 1 24 [.slice none 0 0] := ⟨⟨_, Tryz.underlying308, rfl⟩, by kernel_rfl⟩
instance : Ty Tryz.prog 310 true 3 24 [.int .i64 0, .int .i64 0, .int .i64 0] := ⟨⟨_, Tryz.underlying310, rfl⟩, by kernel_rfl⟩
instance : Ty Tryz.prog 358 true 2 32 [.int .i64 0, .slice none 0 0] := ⟨⟨_, Tryz.underlying358, rfl⟩, by kernel_rfl⟩
instance : TyD Tryz.prog 360 (.pointer 5) := ⟨Tryz.underlying360⟩
instance : Ty Tryz.prog 371 true 1 8 [.int .i64 0] := ⟨⟨_, Tryz.underlying371, rfl⟩, by kernel_rfl⟩
instance : TyD Tryz.prog 384 (.int .u64) := ⟨Tryz.underlying384⟩
instance : FOff Tryz.prog 23 0 0 1 := ⟨⟨_, _, Tryz.underlying23, rfl, by kernel_rfl, by decide, rfl⟩⟩
instance : FOff Tryz.prog 23 1 1 1 := ⟨⟨_, _, Tryz.underlying23, rfl, by kernel_rfl, by decide, rfl⟩⟩
instance : FOff Tryz.prog 23 2 2 1 := ⟨⟨_, _, Tryz.underlying23, rfl, by kernel_rfl, by decide, rfl⟩⟩
instance : FOff Tryz.prog 23 3 3 1 := ⟨⟨_, _, Tryz.underlying23, rfl, by kernel_rfl, by decide, rfl⟩⟩
instance : FOff Tryz.prog 23 4 4 1 := ⟨⟨_, _, Tryz.underlying23, rfl, by kernel_rfl, by decide, rfl⟩⟩
instance : FOff Tryz.prog 23 5 5 1 := ⟨⟨_, _, Tryz.underlying23, rfl, by kernel_rfl, by decide, rfl⟩⟩
instance : FOff Tryz.prog 23 6 6 1 := ⟨⟨_, _, Tryz.underlying23, rfl, by kernel_rfl, by decide, rfl⟩⟩
instance : FOff Tryz.prog 23 7 7 1 := ⟨⟨_, _, Tryz.underlying23, rfl, by kernel_rfl, by decide, rfl⟩⟩
instance : FOff Tryz.prog 23 8 8 1 := ⟨⟨_, _, Tryz.underlying23, rfl, by kernel_rfl, by decide, rfl⟩⟩
instance : FOff Tryz.prog 42 0 0 9 := ⟨⟨_, _, Tryz.underlying42, rfl, by kernel_rfl, by decide, rfl⟩⟩
instance : FOff Tryz.prog 42 1 9 1 := ⟨⟨_, _, Tryz.underlying42, rfl, by kernel_rfl, by decide, rfl⟩⟩
instance : FOff Tryz.prog 42 2 10 1 := ⟨⟨_, _, Tryz.underlying42, rfl, by kernel_rfl, by decide, rfl⟩⟩
instance : FOff Tryz.prog 42 3 11 1 := ⟨⟨_, _, Tryz.underlying42, rfl, by kernel_rfl, by decide, rfl⟩⟩
instance : FOff Tryz.prog 42 4 12 1 := ⟨⟨_, _, Tryz.underlying42, rfl, by kernel_rfl, by decide, rfl⟩⟩
instance : FOff Tryz.prog 49 0 0 1 := ⟨⟨_, _, Tryz.underlying49, rfl, by kernel_rfl, by decide, rfl⟩⟩
instance : FOff Tryz.prog 68 0 0 1 := ⟨⟨_, _, Tryz.underlying68, rfl, by kernel_rfl, by decide, rfl⟩⟩
instance : FOff Tryz.prog 72 0 0 1 := ⟨⟨_, _, Tryz.underlying72, rfl, by kernel_rfl, by decide, rfl⟩⟩
instance : FOff Tryz.prog 72 1 1 1 := ⟨⟨_, _, Tryz.underlying72, rfl, by kernel_rfl, by decide, rfl⟩⟩
instance : FOff Tryz.prog 72 2 2 1 := ⟨⟨_, _, Tryz.underlying72, rfl, by kernel_rfl, by decide, rfl⟩⟩
instance : FOff Tryz.prog 72 3 3 1 := ⟨⟨_, _, Tryz.underlying72, rfl, by kernel_rfl, by decide, rfl⟩⟩
instance : FOff Tryz.prog 72 4 4 1 := ⟨⟨_, _, Tryz.underlying72, rfl, by kernel_rfl, by decide, rfl⟩⟩
instance : FOff Tryz.prog 82 0 0 1 := ⟨⟨_, _, Tryz.underlying82, rfl, by kernel_rfl, by decide, rfl⟩⟩
instance : FOff Tryz.prog 85 1 1 1 := ⟨⟨_, _, Tryz.underlying85, rfl, by kernel_rfl, by decide, rfl⟩⟩
instance : FOff Tryz.prog 91 0 0 9 := ⟨⟨_, _, Tryz.underlying91, rfl, by kernel_rfl, by decide, rfl⟩⟩
instance : FOff Tryz.prog 91 1 9 2 := ⟨⟨_, _, Tryz.underlying91, rfl, by kernel_rfl, by decide, rfl⟩⟩
instance : FOff Tryz.prog 91 2 11 1 := ⟨⟨_, _, Tryz.underlying91, rfl, by kernel_rfl, by decide, rfl⟩⟩
instance : FOff Tryz.prog 91 3 12 1 := ⟨⟨_, _, Tryz.underlying91, rfl, by kernel_rfl, by decide, rfl⟩⟩
instance : FOff Tryz.prog 91 4 13 1 := ⟨⟨_, _, Tryz.underlying91, rfl, by kernel_rfl, by decide, rfl⟩⟩
instance : FOff Tryz.prog 91 5 14 1 := ⟨⟨_, _, Tryz.underlying91, rfl, by kernel_rfl, by decide, rfl⟩⟩
instance : FOff Tryz.prog 102 2 2 1 := ⟨⟨_, _, Tryz.underlying102, rfl, by kernel_rfl, by decide, rfl⟩⟩
instance : FOff Tryz.prog 102 3 3 1 := ⟨⟨_, _, Tryz.underlying102, rfl, by kernel_rfl, by decide, rfl⟩⟩
instance : FOff Tryz.prog 102 6 6 1 := ⟨⟨_, _, Tryz.underlying102, rfl, by kernel_rfl, by decide, rfl⟩⟩
instance : FOff Tryz.prog 102 7 7 1 := ⟨⟨_, _, Tryz.underlying102, rfl, by kernel_rfl, by decide, rfl⟩⟩
instance : FOff Tryz.prog 107 0 0 1 := ⟨⟨_, _, Tryz.underlying107, rfl, by kernel_rfl, by decide, rfl⟩⟩
instance : FOff Tryz.prog 107 1 1 1 := ⟨⟨_, _, Tryz.underlying107, rfl, by kernel_rfl, by decide, rfl⟩⟩
instance : FOff Tryz.prog 111 0 0 1 := ⟨⟨_, _, Tryz.underlying111, rfl, by kernel_rfl, by decide, rfl⟩⟩
instance : FOff Tryz.prog 111 2 2 1 := ⟨⟨_, _, Tryz.underlying111, rfl, by kernel_rfl, by decide, rfl⟩⟩
instance : FOff Tryz.prog 117 0 0 1 := ⟨⟨_, _, Tryz.underlying117, rfl, by kernel_rfl, by decide, rfl⟩⟩
instance : FOff Tryz.prog 123 1 1 1 := ⟨⟨_, _, Tryz.underlying123, rfl, by kernel_rfl, by decide, rfl⟩⟩
instance : FOff Tryz.prog 142 0 0 1 := ⟨⟨_, _, Tryz.underlying142, rfl, by kernel_rfl, by decide, rfl⟩⟩
instance : FOff Tryz.prog 142 1 1 1 := ⟨⟨_, _, Tryz.underlying142, rfl, by kernel_rfl, by decide, rfl⟩⟩
instance : FOff Tryz.prog 142 2 2 1 := ⟨⟨_, _, Tryz.underlying142, rfl, by kernel_rfl, by decide, rfl⟩⟩
instance : FOff Tryz.prog 142 3 3 1 := ⟨⟨_, _, Tryz.underlying142, rfl, by kernel_rfl, by decide, rfl⟩⟩
instance : FOff Tryz.prog 158 0 0 1 := ⟨⟨_, _, Tryz.underlying158, rfl, by kernel_rfl, by decide, rfl⟩⟩
instance : FOff Tryz.prog 158 1 1 1 := ⟨⟨_, _, Tryz.underlying158, rfl, by kernel_rfl, by decide, rfl⟩⟩
instance : FOff Tryz.prog 158 2 2 1 := ⟨⟨_, _, Tryz.underlying158, rfl, by kernel_rfl, by decide, rfl⟩⟩
instance : FOff Tryz.prog 158 3 3 1 := ⟨⟨_, _, Tryz.underlying158, rfl, by kernel_rfl, by decide, rfl⟩⟩
instance : FOff Tryz.prog 162 0 0 4 := ⟨⟨_, _, Tryz.underlying162, rfl, by kernel_rfl, by decide, rfl⟩⟩
instance : FOff Tryz.prog 162 4 15 1 := ⟨⟨_, _, Tryz.underlying162, rfl, by kernel_rfl, by decide, rfl⟩⟩
instance : FOff Tryz.prog 170 1 9 2 := ⟨⟨_, _, Tryz.underlying170, rfl, by kernel_rfl, by decide, rfl⟩⟩
instance : FOff Tryz.prog 170 2 11 1 := ⟨⟨_, _, Tryz.underlying170, rfl, by kernel_rfl, by decide, rfl⟩⟩
instance : FOff Tryz.prog 170 3 12 1 := ⟨⟨_, _, Tryz.underlying170, rfl, by kernel_rfl, by decide, rfl⟩⟩
instance : FOff Tryz.prog 247 0 0 1 := ⟨⟨_, _, Tryz.underlying247, rfl, by kernel_rfl, by decide, rfl⟩⟩
instance : FOff Tryz.prog 247 1 1 1 := ⟨⟨_, _, Tryz.underlying247, rfl, by kernel_rfl, by decide, rfl⟩⟩
instance : FOff Tryz.prog 254 0 0 1 := ⟨⟨_, _, Tryz.underlying254, rfl, by kernel_rfl, by decide, rfl⟩⟩
instance : FOff Tryz.prog 257 0 0 1 := ⟨⟨_, _, Tryz.underlying257, rfl, by kernel_rfl, by decide, rfl⟩⟩
instance : FOff Tryz.prog 257 1 1 1 := ⟨⟨_, _, Tryz.underlying257, rfl, by kernel_rfl, by decide, rfl⟩⟩
instance : FOff Tryz.prog 257 2 2 1 := ⟨⟨_, _, Tryz.underlying257, rfl, by kernel_rfl, by decide, rfl⟩⟩
instance : FOff Tryz.prog 257 3 3 1 := ⟨⟨_, _, Tryz.underlying257, rfl, by kernel_rfl, by decide, rfl⟩⟩
instance : FOff Tryz.prog 275 0 0 11 := ⟨⟨_, _, Tryz.underlying275, rfl, by kernel_rfl, by decide, rfl⟩⟩
instance : FOff Tryz.prog 275 1 11 1 := ⟨⟨_, _, Tryz.underlying275, rfl, by kernel_rfl, by decide, rfl⟩⟩
instance : FOff Tryz.prog 277 0 0 12 := ⟨⟨_, _, Tryz.underlying277, rfl, by kernel_rfl, by decide, rfl⟩⟩
instance : FOff Tryz.prog 277 2 13 1 := ⟨⟨_, _, Tryz.underlying277, rfl, by kernel_rfl, by decide, rfl⟩⟩
instance : FOff Tryz.prog 286 0 0 1 := ⟨⟨_, _, Tryz.underlying286, rfl, by kernel_rfl, by decide, rfl⟩⟩
instance : FOff Tryz.prog 286 1 1 1 := ⟨⟨_, _, Tryz.underlying286, rfl, by kernel_rfl, by decide, rfl⟩⟩
instance : FOff Tryz.prog 286 2 2 1 := ⟨⟨_, _, Tryz.underlying286, rfl, by kernel_rfl, by decide, rfl⟩⟩
instance : FOff Tryz.prog 304 1 1 1 := ⟨⟨_, _, Tryz.underlying304, rfl, by kernel_rfl, by decide, rfl⟩⟩
instance : FOff Tryz.prog 308 0 0 1 := ⟨⟨_, _, Tryz.underlying308, rfl, by kernel_rfl, by decide, rfl⟩⟩
instance : FOff Tryz.prog 358 1 1 1 := ⟨⟨_, _, Tryz.underlying358, rfl, by kernel_rfl, by decide, rfl⟩⟩
instance : FOff Tryz.prog 371 0 0 1 := ⟨⟨_, _, Tryz.underlying371, rfl, by kernel_rfl, by decide, rfl⟩⟩
instance : Places Tryz.prog 23 [(0, 1), (1, 1), (2, 1), (3, 1), (4, 1), (5, 1), (6, 1), (7, 1), (8, 1)] := ⟨by kernel_rfl⟩
instance : Places Tryz.prog 42 [(0, 9), (9, 1), (10, 1), (11, 1), (12, 1), (13, 1)] := ⟨by kernel_rfl⟩
instance : Places Tryz.prog 49 [(0, 1)] := ⟨by kernel_rfl⟩
instance : Places Tryz.prog 55 [(0, 1)] := ⟨by kernel_rfl⟩
instance : Places Tryz.prog 68 [(0, 1), (1, 1)] := ⟨by kernel_rfl⟩
instance : Places Tryz.prog 72 [(0, 1), (1, 1), (2, 1), (3, 1), (4, 1)] := ⟨by kernel_rfl⟩
instance : Places Tryz.prog 77 [(0, 1), (1, 1)] := ⟨by kernel_rfl⟩
instance : Places Tryz.prog 82 [(0, 1), (1, 1), (2, 1)] := ⟨by kernel_rfl⟩
instance : Places Tryz.prog 85 [(0, 1), (1, 1)] := ⟨by kernel_rfl⟩
instance : Places Tryz.prog 91 [(0, 9), (9, 2), (11, 1), (12, 1), (13, 1), (14, 1)] := ⟨by kernel_rfl⟩
instance : Places Tryz.prog 102 [(0, 1), (1, 1), (2, 1), (3, 1), (4, 1), (5, 1), (6, 1), (7, 1), (8, 1), (9, 1), (10, 2), (12, 1), (13, 1), (14, 1), (15, 1), (16, 1), (17, 1), (18, 1), (19, 1)] := ⟨by kernel_rfl⟩
instance : Places Tryz.prog 107 [(0, 1), (1, 1)] := ⟨by kernel_rfl⟩
instance : Places Tryz.prog 120 [(0, 8), (8, 1), (9, 1)] := ⟨by kernel_rfl⟩
instance : Places Tryz.prog 123 [(0, 1), (1, 1), (2, 1), (3, 1), (4, 1)] := ⟨by kernel_rfl⟩
instance : Places Tryz.prog 142 [(0, 1), (1, 1), (2, 1), (3, 1)] := ⟨by kernel_rfl⟩
instance : Places Tryz.prog 162 [(0, 4), (4, 9), (13, 1), (14, 1), (15, 1), (16, 1), (17, 1)] := ⟨by kernel_rfl⟩
instance : Places Tryz.prog 170 [(0, 9), (9, 2), (11, 1), (12, 1), (13, 1)] := ⟨by kernel_rfl⟩
instance : Places Tryz.prog 208 [(0, 1), (1, 1)] := ⟨by kernel_rfl⟩
instance : Places Tryz.prog 237 [(0, 1), (1, 4), (5, 1), (6, 1)] := ⟨by kernel_rfl⟩
instance : Places Tryz.prog 254 [(0, 1)] := ⟨by kernel_rfl⟩
instance : Places Tryz.prog 257 [(0, 1), (1, 1), (2, 1), (3, 1)] := ⟨by kernel_rfl⟩
instance : Places Tryz.prog 277 [(0, 12), (12, 1), (13, 1), (14, 1), (15, 1)] := ⟨by kernel_rfl⟩
instance : Places Tryz.prog 286 [(0, 1), (1, 1), (2, 1)] := ⟨by kernel_rfl⟩
instance : Places Tryz.prog 304 [(0, 1), (1, 1)] := ⟨by kernel_rfl⟩
instance : Places Tryz.prog 308 [(0, 1)] := ⟨by kernel_rfl⟩
instance : Places Tryz.prog 310 [(0, 1), (1, 1), (2, 1)] := ⟨by kernel_rfl⟩
instance : Places Tryz.prog 358 [(0, 1), (1, 1)] := ⟨by kernel_rfl⟩
instance : Places Tryz.prog 371 [(0, 1)] := ⟨by kernel_rfl⟩
instance : FnOk Tryz.prog 4 := ⟨⟨_, Tryz.func4, by kernel_rfl, by kernel_rfl⟩⟩
instance : FnOk Tryz.prog 5 := ⟨⟨_, Tryz.func5, by kernel_rfl, by kernel_rfl⟩⟩
instance : FnOk Tryz.prog 6 := ⟨⟨_, Tryz.func6, by kernel_rfl, by kernel_rfl⟩⟩
instance : FnOk Tryz.prog 7 := ⟨⟨_, Tryz.func7, by kernel_rfl, by kernel_rfl⟩⟩
instance : FnOk Tryz.prog 8 := ⟨⟨_, Tryz.func8, by kernel_rfl, by kernel_rfl⟩⟩
instance : FnOk Tryz.prog 9 := ⟨⟨_, Tryz.func9, by kernel_rfl, by kernel_rfl⟩⟩
instance : FnOk Tryz.prog 10 := ⟨⟨_, Tryz.func10, by kernel_rfl, by kernel_rfl⟩⟩
instance : FnOk Tryz.prog 11 := ⟨⟨_, Tryz.func11, by kernel_rfl, by kernel_rfl⟩⟩
instance : FnOk Tryz.prog 12 := ⟨⟨_, Tryz.func12, by kernel_rfl, by kernel_rfl⟩⟩
instance : FnOk Tryz.prog 13 := ⟨⟨_, Tryz.func13, by kernel_rfl, by kernel_rfl⟩⟩
instance : FnOk Tryz.prog 14 := ⟨⟨_, Tryz.func14, by kernel_rfl, by kernel_rfl⟩⟩
instance : FnOk Tryz.prog 15 := ⟨⟨_, Tryz.func15, by kernel_rfl, by kernel_rfl⟩⟩
instance : FnOk Tryz.prog 16 := ⟨⟨_, Tryz.func16, by kernel_rfl, by kernel_rfl⟩⟩
instance : FnOk Tryz.prog 17 := ⟨⟨_, Tryz.func17, by kernel_rfl, by kernel_rfl⟩⟩
instance : FnOk Tryz.prog 18 := ⟨⟨_, Tryz.func18, by kernel_rfl, by kernel_rfl⟩⟩
instance : FnOk Tryz.prog 19 := ⟨⟨_, Tryz.func19, by kernel_rfl, by kernel_rfl⟩⟩
instance : FnOk Tryz.prog 20 := ⟨⟨_, Tryz.func20, by kernel_rfl, by kernel_rfl⟩⟩
instance : FnOk Tryz.prog 21 := ⟨⟨_, Tryz.func21, by kernel_rfl, by kernel_rfl⟩⟩
instance : FnOk Tryz.prog 22 := ⟨⟨_, Tryz.func22, by kernel_rfl, by kernel_rfl⟩⟩
instance : FnOk Tryz.prog 24 := ⟨⟨_, Tryz.func24, by kernel_rfl, by kernel_rfl⟩⟩
instance : FnOk Tryz.prog 26 := ⟨⟨_, Tryz.func26, by kernel_rfl, by kernel_rfl⟩⟩
instance : FnOk Tryz.prog 27 := ⟨⟨_, Tryz.func27, by kernel_rfl, by kernel_rfl⟩⟩
instance : FnOk Tryz.prog 28 := ⟨⟨_, Tryz.func28, by kernel_rfl, by kernel_rfl⟩⟩
instance : FnOk Tryz.prog 29 := ⟨⟨_, Tryz.func29, by kernel_rfl, by kernel_rfl⟩⟩
instance : FnOk Tryz.prog 30 := ⟨⟨_, Tryz.func30, by kernel_rfl, by kernel_rfl⟩⟩
instance : FnOk Tryz.prog 31 := ⟨⟨_, Tryz.func31, by kernel_rfl, by kernel_rfl⟩⟩
instance : FnOk Tryz.prog 32 := ⟨⟨_, Tryz.func32, by kernel_rfl, by kernel_rfl⟩⟩
instance : FnOk Tryz.prog 33 := ⟨⟨_, Tryz.func33, by kernel_rfl, by kernel_rfl⟩⟩
instance : FnOk Tryz.prog 34 := ⟨⟨_, Tryz.func34, by kernel_rfl, by kernel_rfl⟩⟩
instance : FnOk Tryz.prog 37 := ⟨⟨_, Tryz.func37, by kernel_rfl, by kernel_rfl⟩⟩
instance : FnOk Tryz.prog 38 := ⟨⟨_, Tryz.func38, by kernel_rfl, by kernel_rfl⟩⟩
instance : FnOk Tryz.prog 39 := ⟨⟨_, Tryz.func39, by kernel_rfl, by kernel_rfl⟩⟩
instance : FnOk Tryz.prog 42 := ⟨⟨_, Tryz.func42, by kernel_rfl, by kernel_rfl⟩⟩
instance : FnOk Tryz.prog 52 := ⟨⟨_, Tryz.func52, by kernel_rfl, by kernel_rfl⟩⟩
instance : FnOk Tryz.prog 53 := ⟨⟨_, Tryz.func53, by kernel_rfl, by kernel_rfl⟩⟩
instance : FnOk Tryz.prog 54 := ⟨⟨_, Tryz.func54, by kernel_rfl, by kernel_rfl⟩⟩
instance : FnOk Tryz.prog 55 := ⟨⟨_, Tryz.func55, by kernel_rfl, by kernel_rfl⟩⟩
instance : FnOk Tryz.prog 56 := ⟨⟨_, Tryz.func56, by kernel_rfl, by kernel_rfl⟩⟩
instance : FnOk Tryz.prog 57 := ⟨⟨_, Tryz.func57, by kernel_rfl, by kernel_rfl⟩⟩
instance : FnOk Tryz.prog 58 := ⟨⟨_, Tryz.func58, by kernel_rfl, by kernel_rfl⟩⟩
instance : FnOk Tryz.prog 59 := ⟨⟨_, Tryz.func59, by kernel_rfl, by kernel_rfl⟩⟩
instance : FnOk Tryz.prog 62 := ⟨⟨_, Tryz.func62, by kernel_rfl, by kernel_rfl⟩⟩
instance : FnOk Tryz.prog 63 := ⟨⟨_, Tryz.func63, by kernel_rfl, by kernel_rfl⟩⟩
instance : FnOk Tryz.prog 64 := ⟨⟨_, Tryz.func64, by kernel_rfl, by kernel_rfl⟩⟩
instance : FnOk Tryz.prog 66 := ⟨⟨_, Tryz.func66, by kernel_rfl, by kernel_rfl⟩⟩
instance : FnOk Tryz.prog 67 := ⟨⟨_, Tryz.func67, by kernel_rfl, by kernel_rfl⟩⟩
instance : FnOk Tryz.prog 68 := ⟨⟨_, Tryz.func68, by kernel_rfl, by kernel_rfl⟩⟩
instance : FnOk Tryz.prog 69 := ⟨⟨_, Tryz.func69, by kernel_rfl, by kernel_rfl⟩⟩
instance : FnOk Tryz.prog 70 := ⟨⟨_, Tryz.func70, by kernel_rfl, by kernel_rfl⟩⟩
instance : FnOk Tryz.prog 71 := ⟨⟨_, Tryz.func71, by kernel_rfl, by kernel_rfl⟩⟩
instance : FnOk Tryz.prog 72 := ⟨⟨_, Tryz.func72, by kernel_rfl, by kernel_rfl⟩⟩
instance : FnOk Tryz.prog 73 := ⟨⟨_, Tryz.func73, by kernel_rfl, by kernel_rfl⟩⟩
instance : FnOk Tryz.prog 74 := ⟨⟨_, Tryz.func74, by kernel_rfl, by kernel_rfl⟩⟩
instance : FnOk Tryz.prog 75 := ⟨⟨_, Tryz.func75, by kernel_rfl, by kernel_rfl⟩⟩
instance : FnOk Tryz.prog 81 := ⟨⟨_, Tryz.func81, by kernel_rfl, by kernel_rfl⟩⟩
instance : FnOk Tryz.prog 84 := ⟨⟨_, Tryz.func84, by kernel_rfl, by kernel_rfl⟩⟩
instance : FnOk Tryz.prog 87 := ⟨⟨_, Tryz.func87, by kernel_rfl, by kernel_rfl⟩⟩
instance : FnOk Tryz.prog 95 := ⟨⟨_, Tryz.func95, by kernel_rfl, by kernel_rfl⟩⟩
instance : FnOk Tryz.prog 111 := ⟨⟨_, Tryz.func111, by kernel_rfl, by kernel_rfl⟩⟩
instance : FnOk Tryz.prog 112 := ⟨⟨_, Tryz.func112, by kernel_rfl, by kernel_rfl⟩⟩
instance : FnOk Tryz.prog 113 := ⟨⟨_, Tryz.func113, by kernel_rfl, by kernel_rfl⟩⟩
instance : FnOk Tryz.prog 114 := ⟨⟨_, Tryz.func114, by kernel_rfl, by kernel_rfl⟩⟩
instance : FnOk Tryz.prog 115 := ⟨⟨_, Tryz.func115, by kernel_rfl, by kernel_rfl⟩⟩
instance : FnOk Tryz.prog 121 := ⟨⟨_, Tryz.func121, by kernel_rfl, by kernel_rfl⟩⟩
instance : FnOk Tryz.prog 123 := ⟨⟨_, Tryz.func123, by kernel_rfl, by kernel_rfl⟩⟩
instance : FnOk Tryz.prog 126 := ⟨⟨_, Tryz.func126, by kernel_rfl, by kernel_rfl⟩⟩
instance : FnOk Tryz.prog 127 := ⟨⟨_, Tryz.func127, by kernel_rfl, by kernel_rfl⟩⟩
instance : FnOk Tryz.prog 128 := ⟨⟨_, Tryz.func128, by kernel_rfl, by kernel_rfl⟩⟩
instance : FnOk Tryz.prog 129 := ⟨⟨_, Tryz.func129, by kernel_rfl, by kernel_rfl⟩⟩
instance : FnOk Tryz.prog 130 := ⟨⟨_, Tryz.func130, by kernel_rfl, by kernel_rfl⟩⟩
instance : FnOk Tryz.prog 131 := ⟨⟨_, Tryz.func131, by kernel_rfl, by kernel_rfl⟩⟩
instance : FnOk Tryz.prog 134 := ⟨⟨_, Tryz.func134, by kernel_rfl, by kernel_rfl⟩⟩
instance : FnOk Tryz.prog 135 := ⟨⟨_, Tryz.func135, by kernel_rfl, by kernel_rfl⟩⟩
instance : FnOk Tryz.prog 136 := ⟨⟨_, Tryz.func136, by kernel_rfl, by kernel_rfl⟩⟩
instance : FnOk Tryz.prog 137 := ⟨⟨_, Tryz.func137, by kernel_rfl, by kernel_rfl⟩⟩
instance : FnOk Tryz.prog 138 := ⟨⟨_, Tryz.func138, by kernel_rfl, by kernel_rfl⟩⟩
instance : FnOk Tryz.prog 139 := ⟨⟨_, Tryz.func139, by kernel_rfl, by kernel_rfl⟩⟩
instance : FnOk Tryz.prog 140 := ⟨⟨_, Tryz.func140, by kernel_rfl, by kernel_rfl⟩⟩
instance : FnOk Tryz.prog 141 := ⟨⟨_, Tryz.func141, by kernel_rfl, by kernel_rfl⟩⟩
instance : FnOk Tryz.prog 142 := ⟨⟨_, Tryz.func142, by kernel_rfl, by kernel_rfl⟩⟩
instance : FnOk Tryz.prog 150 := ⟨⟨_, Tryz.func150, by kernel_rfl, by kernel_rfl⟩⟩
instance : FnOk Tryz.prog 153 := ⟨⟨_, Tryz.func153, by kernel_rfl, by kernel_rfl⟩⟩
instance : FnOk Tryz.prog 167 := ⟨⟨_, Tryz.func167, by kernel_rfl, by kernel_rfl⟩⟩
instance : FnOk Tryz.prog 169 := ⟨⟨_, Tryz.func169, by kernel_rfl, by kernel_rfl⟩⟩
instance : FnOk Tryz.prog 172 := ⟨⟨_, Tryz.func172, by kernel_rfl, by kernel_rfl⟩⟩
instance : FnOk Tryz.prog 173 := ⟨⟨_, Tryz.func173, by kernel_rfl, by kernel_rfl⟩⟩
instance : FnOk Tryz.prog 187 := ⟨⟨_, Tryz.func187, by kernel_rfl, by kernel_rfl⟩⟩
instance : FnOk Tryz.prog 188 := ⟨⟨_, Tryz.func188, by kernel_rfl, by kernel_rfl⟩⟩
instance : FnOk Tryz.prog 189 := ⟨⟨_, Tryz.func189, by kernel_rfl, by kernel_rfl⟩⟩
instance : FnOk Tryz.prog 190 := ⟨⟨_, Tryz.func190, by kernel_rfl, by kernel_rfl⟩⟩
instance : FnOk Tryz.prog 191 := ⟨⟨_, Tryz.func191, by kernel_rfl, by kernel_rfl⟩⟩
instance : FnOk Tryz.prog 192 := ⟨⟨_, Tryz.func192, by kernel_rfl, by kernel_rfl⟩⟩
instance : FnOk Tryz.prog 194 := ⟨⟨_, Tryz.func194, by kernel_rfl, by kernel_rfl⟩⟩
instance : FnOk Tryz.prog 200 := ⟨⟨_, Tryz.func200, by kernel_rfl, by kernel_rfl⟩⟩
instance : FnOk Tryz.prog 205 := ⟨⟨_, Tryz.func205, by kernel_rfl, by kernel_rfl⟩⟩
instance : FnOk Tryz.prog 207 := ⟨⟨_, Tryz.func207, by kernel_rfl, by kernel_rfl⟩⟩
instance : FnOk Tryz.prog 208 := ⟨⟨_, Tryz.func208, by kernel_rfl, by kernel_rfl⟩⟩
instance : FnOk Tryz.prog 209 := ⟨⟨_, Tryz.func209, by kernel_rfl, by kernel_rfl⟩⟩
instance : FnOk Tryz.prog 210 := ⟨⟨_, Tryz.func210, by kernel_rfl, by kernel_rfl⟩⟩
instance : FnOk Tryz.prog 211 := ⟨⟨_, Tryz.func211, by kernel_rfl, by kernel_rfl⟩⟩
instance : FnOk Tryz.prog 212 := ⟨⟨_, Tryz.func212, by kernel_rfl, by kernel_rfl⟩⟩
instance : FnOk Tryz.prog 213 := ⟨⟨_, Tryz.func213, by kernel_rfl, by kernel_rfl⟩⟩
instance : FnOk Tryz.prog 214 := ⟨⟨_, Tryz.func214, by kernel_rfl, by kernel_rfl⟩⟩
instance : FnOk Tryz.prog 215 := ⟨⟨_, Tryz.func215, by kernel_rfl, by kernel_rfl⟩⟩
instance : FnOk Tryz.prog 217 := ⟨⟨_, Tryz.func217, by kernel_rfl, by kernel_rfl⟩⟩
instance : FnOk Tryz.prog 243 := ⟨⟨_, Tryz.func243, by kernel_rfl, by kernel_rfl⟩⟩
instance : FnOk Tryz.prog 245 := ⟨⟨_, Tryz.func245, by kernel_rfl, by kernel_rfl⟩⟩
instance : FnOk Tryz.prog 246 := ⟨⟨_, Tryz.func246, by kernel_rfl, by kernel_rfl⟩⟩
instance : FnOk Tryz.prog 248 := ⟨⟨_, Tryz.func248, by kernel_rfl, by kernel_rfl⟩⟩
instance : FnOk Tryz.prog 249 := ⟨⟨_, Tryz.func249, by kernel_rfl, by kernel_rfl⟩⟩
instance : FnOk Tryz.prog 250 := ⟨⟨_, Tryz.func250, by kernel_rfl, by kernel_rfl⟩⟩
instance : FnOk Tryz.prog 251 := ⟨⟨_, Tryz.func251, by kernel_rfl, by kernel_rfl⟩⟩
instance : FnOk Tryz.prog 270 := ⟨⟨_, Tryz.func270, by kernel_rfl, by kernel_rfl⟩⟩
instance : FnOk Tryz.prog 271 := ⟨⟨_, Tryz.func271, by kernel_rfl, by kernel_rfl⟩⟩
instance : FnOk Tryz.prog 272 := ⟨⟨_, Tryz.func272, by kernel_rfl, by kernel_rfl⟩⟩
instance : FnOk Tryz.prog 273 := ⟨⟨_, Tryz.func273, by kernel_rfl, by kernel_rfl⟩⟩
instance : FnOk Tryz.prog 286 := ⟨⟨_, Tryz.func286, by kernel_rfl, by kernel_rfl⟩⟩
instance : FnOk Tryz.prog 288 := ⟨⟨_, Tryz.func288, by kernel_rfl, by kernel_rfl⟩⟩
instance : FnOk Tryz.prog 289 := ⟨⟨_, Tryz.func289, by kernel_rfl, by kernel_rfl⟩⟩
instance : FnOk Tryz.prog 290 := ⟨⟨_, Tryz.func290, by kernel_rfl, by kernel_rfl⟩⟩
instance : FnOk Tryz.prog 305 := ⟨⟨_, Tryz.func305, by kernel_rfl, by kernel_rfl⟩⟩
instance : FnOk Tryz.prog 306 := ⟨⟨_, Tryz.func306, by kernel_rfl, by kernel_rfl⟩⟩
instance : FnOk Tryz.prog 307 := ⟨⟨_, Tryz.func307, by kernel_rfl, by kernel_rfl⟩⟩
instance : FnOk Tryz.prog 321 := ⟨⟨_, Tryz.func321, by kernel_rfl, by kernel_rfl⟩⟩
instance : FnOk Tryz.prog 327 := ⟨⟨_, Tryz.func327, by kernel_rfl, by kernel_rfl⟩⟩
instance : FnOk Tryz.prog 331 := ⟨⟨_, Tryz.func331, by kernel_rfl, by kernel_rfl⟩⟩
instance : FnOk Tryz.prog 342 := ⟨⟨_, Tryz.func342, by kernel_rfl, by kernel_rfl⟩⟩
end Go.Proofs.YtkcmjgjfodipfaaGreat
/- Reads that are owed: of what lay ahead of the call; of what a guard leaves out. -/
namespace Go.Sep
open Go
set_option linter.unusedVariables false
section
variable {P : Program} {N : Fi} {B : Base} {Q : Exit → Act → World → Prop} {T : Tm} {A : List Blk} {ops : Array Oper} {l : List Oper}
variable {d : Nat} {ty : TypeId} {pos : String} {af : Array Edge} {m : Md} {gd : Option (Nat × Bool)}
theorem Still.ldR {i dd t : Nat} {x : Operand} {b off : Nat} {sz bs : Nat} {zc : List Value} {v : Value} (ho : ops[i]? = some ⟨some dd, .load t x, ty, pos, af, gd⟩) (hg : gst ops T gd = some true) (hx : ev T x = some (.pointer (some ⟨b, off, none⟩)))
    [ht : Ty P t false sz bs zc] (hv : Rd B A b off v) (hl : look T dd = some v) : Still P N B ops T A i :=
  ⟨_, dd, v, ho, rfl, hl, fun a w hF hS => .inl ⟨gst_wanted (o := ⟨some dd, .load t x, ty, pos, af, gd⟩) hF hg, by simp [execOp, hF.eval hx, run_loadAt1 ht (hv w hS)]⟩⟩
theorem Still.ldRow1 {i' dd t : Nat} {x : Operand} {b i o : Nat} {sz sz' bs : Nat} {zc r : List Value} {rows : List (List Value)} {spare : List Value} {E : TypeId} {v : Value} (ho : ops[i']? = some ⟨some dd, .load t x, ty, pos, af, gd⟩) (hg : gst ops T gd = some true) [ht : Ty P t false sz' bs zc]
    (hx : ev T x = some (.pointer (some ⟨b, i * sz + o, none⟩))) [hb : Has A b (cl (rows.flatten ++ spare) E)] (hr : RowsOk sz rows) (hi : rows[i]? = some r) (hv : r[o]? = some v) (hl : look T dd = some v) : Still P N B ops T A i' :=
  ⟨_, dd, v, ho, rfl, hl, fun a w hF hS => .inl ⟨gst_wanted (o := ⟨some dd, .load t x, ty, pos, af, gd⟩) hF hg, by
    have hl := (hr r (List.mem_of_getElem? hi)).1
    have ho : o < sz := by rw [← hl]; exact (List.getElem?_eq_some_iff.1 hv).1
    have h1 := hr.at_ hi ho
    have hc : w.cell? ⟨b, i * sz + o, none⟩ = some v := by
      rw [cell_of (hS.here _ hb.mem), List.getElem?_append_left (List.getElem?_eq_some_iff.1 (h1.trans hv)).1, h1, hv]
    simp [execOp, hF.eval hx, run_loadAt1 ht hc]⟩⟩
theorem Still.skip {i dd j : Nat} {want : Bool} {op : Op} (ho : ops[i]? = some ⟨some dd, op, ty, pos, af, some (j, want)⟩) (hg : gst ops T (some (j, want)) = some false) (hl : look T dd = some undef) : Still P N B ops T A i :=
  ⟨_, dd, undef, ho, rfl, hl, fun a w hF hS => .inr ⟨gst_wanted (o := ⟨some dd, op, ty, pos, af, some (j, want)⟩) hF hg, rfl⟩⟩
end
end Go.Sep
/- One cell of a row is written; the blocks in another order. -/
namespace Go.Sep
open Go
set_option linter.unusedVariables false
section
variable {P : Program} {N : Fi} {B : Base} {Q : Exit → Act → World → Prop} {T : Tm} {A : List Blk} {ops : Array Oper} {l : List Oper}
variable {d : Nat} {ty : TypeId} {pos : String} {af : Array Edge} {m : Md} {gd : Option (Nat × Bool)}
/-- Other blocks that hold where these hold. -/
theorem Ops.blk {A' : List Blk} (k : Ops P N B Q ops none l T A') (hA : ∀ w, Sat B A w → Sat B A' w) : Ops P N B Q ops none l T A :=
  fun a w hF hS => k a w hF (hA w hS)
theorem Cd.blk {c : Code} {A' : List Blk} (k : Cd P N B Q c T A') (hA : ∀ w, Sat B A w → Sat B A' w) : Cd P N B Q c T A :=
  fun a w hF hS => k a w hF (hA w hS)
end
end Go.Sep
/- A guard whose test was itself left out. -/
namespace Go.Sep
open Go
section
variable {P : Program} {N : Fi} {B : Base} {Q : Exit → Act → World → Prop} {T : Tm} {A : List Blk} {ops : Array Oper} {l : List Oper}
variable {d : Nat} {op : Op} {ty : TypeId} {pos : String} {af : Array Edge} {m : Md} {gd : Option (Nat × Bool)}
theorem unwanted {j dj : Nat} {want : Bool} {dst : Option Nat} {a : Act} (hF : Fr N T a) (hj : (ops[j]?).bind (·.dst) = some dj) (hu : look T dj = some undef) : Region.wanted ⟨dst, op, ty, pos, af, some (j, want)⟩ (yielded ops a.tmps) = false := by
  unfold Region.wanted
  have : yielded ops a.tmps j = none := by
    unfold yielded
    rw [hj]
    simp [hF.get _ _ hu, undef]
  simp [this]
theorem Ops.gSkipU {j dj : Nat} {want : Bool} (hm : m.rd true = true) (hj : (ops[j]?).bind (·.dst) = some dj) (hu : look T dj = some undef) (hd : Nat.blt d N.n = true) (k : Ops P N B Q ops m.tl l ((d, undef) :: T) A) :
    Ops P N B Q ops m (⟨some d, op, ty, pos, af, some (j, want)⟩ :: l) T A :=
  Ops.rdG true hm rfl hd (fun _ _ hF _ => .inr ⟨unwanted hF hj hu, rfl⟩) k
end
end Go.Sep
