/- Closed facts on the program of this seat: each function has a body; sizes, zeros, places. No statement of the seat is proved here. -/
import Derived.Test.YtkahmepenjhcpaaDoorFf
import Derived.KernelRfl
namespace Go.Proofs.YtkahmepenjhcpaaDoor.W
open Go
theorem k28 : Callable Tryd.prog 28 := ⟨⟨_, Tryd.func28, by kernel_rfl, rfl⟩⟩
theorem k29 : Callable Tryd.prog 29 := ⟨⟨_, Tryd.func29, by kernel_rfl, rfl⟩⟩
theorem k30 : Callable Tryd.prog 30 := ⟨⟨_, Tryd.func30, by kernel_rfl, rfl⟩⟩
theorem k31 : Callable Tryd.prog 31 := ⟨⟨_, Tryd.func31, by kernel_rfl, rfl⟩⟩
theorem k32 : Callable Tryd.prog 32 := ⟨⟨_, Tryd.func32, by kernel_rfl, rfl⟩⟩
theorem k33 : Callable Tryd.prog 33 := ⟨⟨_, Tryd.func33, by kernel_rfl, rfl⟩⟩
theorem k34 : Callable Tryd.prog 34 := ⟨⟨_, Tryd.func34, by kernel_rfl, rfl⟩⟩
theorem k35 : Callable Tryd.prog 35 := ⟨⟨_, Tryd.func35, by kernel_rfl, rfl⟩⟩
theorem k36 : Callable Tryd.prog 36 := ⟨⟨_, Tryd.func36, by kernel_rfl, rfl⟩⟩
theorem k37 : Callable Tryd.prog 37 := ⟨⟨_, Tryd.func37, by kernel_rfl, rfl⟩⟩
theorem k38 : Callable Tryd.prog 38 := ⟨⟨_, Tryd.func38, by kernel_rfl, rfl⟩⟩
theorem k39 : Callable Tryd.prog 39 := ⟨⟨_, Tryd.func39, by kernel_rfl, rfl⟩⟩
theorem k40 : Callable Tryd.prog 40 := ⟨⟨_, Tryd.func40, by kernel_rfl, rfl⟩⟩
theorem k41 : Callable Tryd.prog 41 := ⟨⟨_, Tryd.func41, by kernel_rfl, rfl⟩⟩
theorem k42 : Callable Tryd.prog 42 := ⟨⟨_, Tryd.func42, by kernel_rfl, rfl⟩⟩
theorem k43 : Callable Tryd.prog 43 := ⟨⟨_, Tryd.func43, by kernel_rfl, rfl⟩⟩
theorem k44 : Callable Tryd.prog 44 := ⟨⟨_, Tryd.func44, by kernel_rfl, rfl⟩⟩
theorem k45 : Callable Tryd.prog 45 := ⟨⟨_, Tryd.func45, by kernel_rfl, rfl⟩⟩
theorem k46 : Callable Tryd.prog 46 := ⟨⟨_, Tryd.func46, by kernel_rfl, rfl⟩⟩
theorem k47 : Callable Tryd.prog 47 := ⟨⟨_, Tryd.func47, by kernel_rfl, rfl⟩⟩
theorem k48 : Callable Tryd.prog 48 := ⟨⟨_, Tryd.func48, by kernel_rfl, rfl⟩⟩
theorem k49 : Callable Tryd.prog 49 := ⟨⟨_, Tryd.func49, by kernel_rfl, rfl⟩⟩
theorem k50 : Callable Tryd.prog 50 := ⟨⟨_, Tryd.func50, by kernel_rfl, rfl⟩⟩
theorem k51 : Callable Tryd.prog 51 := ⟨⟨_, Tryd.func51, by kernel_rfl, rfl⟩⟩
theorem k52 : Callable Tryd.prog 52 := ⟨⟨_, Tryd.func52, by kernel_rfl, rfl⟩⟩
theorem k53 : Callable Tryd.prog 53 := ⟨⟨_, Tryd.func53, by kernel_rfl, rfl⟩⟩
theorem k54 : Callable Tryd.prog 54 := ⟨⟨_, Tryd.func54, by kernel_rfl, rfl⟩⟩
theorem k55 : Callable Tryd.prog 55 := ⟨⟨_, Tryd.func55, by kernel_rfl, rfl⟩⟩
theorem k56 : Callable Tryd.prog 56 := ⟨⟨_, Tryd.func56, by kernel_rfl, rfl⟩⟩
theorem k57 : Callable Tryd.prog 57 := ⟨⟨_, Tryd.func57, by kernel_rfl, rfl⟩⟩
theorem k58 : Callable Tryd.prog 58 := ⟨⟨_, Tryd.func58, by kernel_rfl, rfl⟩⟩
theorem k59 : Callable Tryd.prog 59 := ⟨⟨_, Tryd.func59, by kernel_rfl, rfl⟩⟩
theorem k60 : Callable Tryd.prog 60 := ⟨⟨_, Tryd.func60, by kernel_rfl, rfl⟩⟩
theorem k61 : Callable Tryd.prog 61 := ⟨⟨_, Tryd.func61, by kernel_rfl, rfl⟩⟩
theorem k62 : Callable Tryd.prog 62 := ⟨⟨_, Tryd.func62, by kernel_rfl, rfl⟩⟩
theorem k63 : Callable Tryd.prog 63 := ⟨⟨_, Tryd.func63, by kernel_rfl, rfl⟩⟩
theorem k64 : Callable Tryd.prog 64 := ⟨⟨_, Tryd.func64, by kernel_rfl, rfl⟩⟩
theorem k65 : Callable Tryd.prog 65 := ⟨⟨_, Tryd.func65, by kernel_rfl, rfl⟩⟩
theorem k66 : Callable Tryd.prog 66 := ⟨⟨_, Tryd.func66, by kernel_rfl, rfl⟩⟩
theorem k67 : Callable Tryd.prog 67 := ⟨⟨_, Tryd.func67, by kernel_rfl, rfl⟩⟩
theorem k68 : Callable Tryd.prog 68 := ⟨⟨_, Tryd.func68, by kernel_rfl, rfl⟩⟩
theorem k69 : Callable Tryd.prog 69 := ⟨⟨_, Tryd.func69, by kernel_rfl, rfl⟩⟩
theorem k70 : Callable Tryd.prog 70 := ⟨⟨_, Tryd.func70, by kernel_rfl, rfl⟩⟩
theorem k71 : Callable Tryd.prog 71 := ⟨⟨_, Tryd.func71, by kernel_rfl, rfl⟩⟩
theorem k72 : Callable Tryd.prog 72 := ⟨⟨_, Tryd.func72, by kernel_rfl, rfl⟩⟩
theorem k73 : Callable Tryd.prog 73 := ⟨⟨_, Tryd.func73, by kernel_rfl, rfl⟩⟩
theorem k74 : Callable Tryd.prog 74 := ⟨⟨_, Tryd.func74, by kernel_rfl, rfl⟩⟩
theorem k75 : Callable Tryd.prog 75 := ⟨⟨_, Tryd.func75, by kernel_rfl, rfl⟩⟩
theorem k76 : Callable Tryd.prog 76 := ⟨⟨_, Tryd.func76, by kernel_rfl, rfl⟩⟩
theorem k77 : Callable Tryd.prog 77 := ⟨⟨_, Tryd.func77, by kernel_rfl, rfl⟩⟩
theorem k78 : Callable Tryd.prog 78 := ⟨⟨_, Tryd.func78, by kernel_rfl, rfl⟩⟩
theorem k79 : Callable Tryd.prog 79 := ⟨⟨_, Tryd.func79, by kernel_rfl, rfl⟩⟩
theorem k80 : Callable Tryd.prog 80 := ⟨⟨_, Tryd.func80, by kernel_rfl, rfl⟩⟩
theorem k81 : Callable Tryd.prog 81 := ⟨⟨_, Tryd.func81, by kernel_rfl, rfl⟩⟩
theorem k82 : Callable Tryd.prog 82 := ⟨⟨_, Tryd.func82, by kernel_rfl, rfl⟩⟩
theorem k83 : Callable Tryd.prog 83 := ⟨⟨_, Tryd.func83, by kernel_rfl, rfl⟩⟩
theorem k84 : Callable Tryd.prog 84 := ⟨⟨_, Tryd.func84, by kernel_rfl, rfl⟩⟩
theorem k85 : Callable Tryd.prog 85 := ⟨⟨_, Tryd.func85, by kernel_rfl, rfl⟩⟩
theorem k86 : Callable Tryd.prog 86 := ⟨⟨_, Tryd.func86, by kernel_rfl, rfl⟩⟩
theorem k87 : Callable Tryd.prog 87 := ⟨⟨_, Tryd.func87, by kernel_rfl, rfl⟩⟩
theorem k88 : Callable Tryd.prog 88 := ⟨⟨_, Tryd.func88, by kernel_rfl, rfl⟩⟩
theorem k89 : Callable Tryd.prog 89 := ⟨⟨_, Tryd.func89, by kernel_rfl, rfl⟩⟩
theorem k90 : Callable Tryd.prog 90 := ⟨⟨_, Tryd.func90, by kernel_rfl, rfl⟩⟩
theorem k91 : Callable Tryd.prog 91 := ⟨⟨_, Tryd.func91, by kernel_rfl, rfl⟩⟩
theorem k92 : Callable Tryd.prog 92 := ⟨⟨_, Tryd.func92, by kernel_rfl, rfl⟩⟩
theorem k93 : Callable Tryd.prog 93 := ⟨⟨_, Tryd.func93, by kernel_rfl, rfl⟩⟩
theorem k94 : Callable Tryd.prog 94 := ⟨⟨_, Tryd.func94, by kernel_rfl, rfl⟩⟩
theorem k95 : Callable Tryd.prog 95 := ⟨⟨_, Tryd.func95, by kernel_rfl, rfl⟩⟩
theorem k96 : Callable Tryd.prog 96 := ⟨⟨_, Tryd.func96, by kernel_rfl, rfl⟩⟩
theorem k97 : Callable Tryd.prog 97 := ⟨⟨_, Tryd.func97, by kernel_rfl, rfl⟩⟩
theorem k98 : Callable Tryd.prog 98 := ⟨⟨_, Tryd.func98, by kernel_rfl, rfl⟩⟩
theorem k99 : Callable Tryd.prog 99 := ⟨⟨_, Tryd.func99, by kernel_rfl, rfl⟩⟩
theorem k100 : Callable Tryd.prog 100 := ⟨⟨_, Tryd.func100, by kernel_rfl, rfl⟩⟩
theorem k101 : Callable Tryd.prog 101 := ⟨⟨_, Tryd.func101, by kernel_rfl, rfl⟩⟩
theorem k102 : Callable Tryd.prog 102 := ⟨⟨_, Tryd.func102, by kernel_rfl, rfl⟩⟩
theorem k103 : Callable Tryd.prog 103 := ⟨⟨_, Tryd.func103, by kernel_rfl, rfl⟩⟩
theorem k104 : Callable Tryd.prog 104 := ⟨⟨_, Tryd.func104, by kernel_rfl, rfl⟩⟩
theorem k105 : Callable Tryd.prog 105 := ⟨⟨_, Tryd.func105, by kernel_rfl, rfl⟩⟩
theorem k106 : Callable Tryd.prog 106 := ⟨⟨_, Tryd.func106, by kernel_rfl, rfl⟩⟩
theorem k107 : Callable Tryd.prog 107 := ⟨⟨_, Tryd.func107, by kernel_rfl, rfl⟩⟩
theorem k108 : Callable Tryd.prog 108 := ⟨⟨_, Tryd.func108, by kernel_rfl, rfl⟩⟩
theorem k109 : Callable Tryd.prog 109 := ⟨⟨_, Tryd.func109, by kernel_rfl, rfl⟩⟩
theorem k110 : Callable Tryd.prog 110 := ⟨⟨_, Tryd.func110, by kernel_rfl, rfl⟩⟩
theorem k111 : Callable Tryd.prog 111 := ⟨⟨_, Tryd.func111, by kernel_rfl, rfl⟩⟩
theorem k112 : Callable Tryd.prog 112 := ⟨⟨_, Tryd.func112, by kernel_rfl, rfl⟩⟩
theorem k113 : Callable Tryd.prog 113 := ⟨⟨_, Tryd.func113, by kernel_rfl, rfl⟩⟩
theorem k114 : Callable Tryd.prog 114 := ⟨⟨_, Tryd.func114, by kernel_rfl, rfl⟩⟩
theorem k115 : Callable Tryd.prog 115 := ⟨⟨_, Tryd.func115, by kernel_rfl, rfl⟩⟩
theorem k116 : Callable Tryd.prog 116 := ⟨⟨_, Tryd.func116, by kernel_rfl, rfl⟩⟩
theorem k117 : Callable Tryd.prog 117 := ⟨⟨_, Tryd.func117, by kernel_rfl, rfl⟩⟩
theorem k118 : Callable Tryd.prog 118 := ⟨⟨_, Tryd.func118, by kernel_rfl, rfl⟩⟩
theorem k119 : Callable Tryd.prog 119 := ⟨⟨_, Tryd.func119, by kernel_rfl, rfl⟩⟩
theorem k120 : Callable Tryd.prog 120 := ⟨⟨_, Tryd.func120, by kernel_rfl, rfl⟩⟩
theorem k121 : Callable Tryd.prog 121 := ⟨⟨_, Tryd.func121, by kernel_rfl, rfl⟩⟩
theorem k122 : Callable Tryd.prog 122 := ⟨⟨_, Tryd.func122, by kernel_rfl, rfl⟩⟩
theorem k123 : Callable Tryd.prog 123 := ⟨⟨_, Tryd.func123, by kernel_rfl, rfl⟩⟩
theorem k124 : Callable Tryd.prog 124 := ⟨⟨_, Tryd.func124, by kernel_rfl, rfl⟩⟩
theorem k125 : Callable Tryd.prog 125 := ⟨⟨_, Tryd.func125, by kernel_rfl, rfl⟩⟩
theorem k126 : Callable Tryd.prog 126 := ⟨⟨_, Tryd.func126, by kernel_rfl, rfl⟩⟩
theorem k127 : Callable Tryd.prog 127 := ⟨⟨_, Tryd.func127, by kernel_rfl, rfl⟩⟩
theorem k128 : Callable Tryd.prog 128 := ⟨⟨_, Tryd.func128, by kernel_rfl, rfl⟩⟩
theorem k129 : Callable Tryd.prog 129 := ⟨⟨_, Tryd.func129, by kernel_rfl, rfl⟩⟩
theorem k130 : Callable Tryd.prog 130 := ⟨⟨_, Tryd.func130, by kernel_rfl, rfl⟩⟩
theorem k131 : Callable Tryd.prog 131 := ⟨⟨_, Tryd.func131, by kernel_rfl, rfl⟩⟩
theorem k132 : Callable Tryd.prog 132 := ⟨⟨_, Tryd.func132, by kernel_rfl, rfl⟩⟩
theorem k133 : Callable Tryd.prog 133 := ⟨⟨_, Tryd.func133, by kernel_rfl, rfl⟩⟩
theorem k134 : Callable Tryd.prog 134 := ⟨⟨_, Tryd.func134, by kernel_rfl, rfl⟩⟩
theorem k135 : Callable Tryd.prog 135 := ⟨⟨_, Tryd.func135, by kernel_rfl, rfl⟩⟩
theorem k136 : Callable Tryd.prog 136 := ⟨⟨_, Tryd.func136, by kernel_rfl, rfl⟩⟩
theorem k137 : Callable Tryd.prog 137 := ⟨⟨_, Tryd.func137, by kernel_rfl, rfl⟩⟩
theorem k138 : Callable Tryd.prog 138 := ⟨⟨_, Tryd.func138, by kernel_rfl, rfl⟩⟩
theorem k139 : Callable Tryd.prog 139 := ⟨⟨_, Tryd.func139, by kernel_rfl, rfl⟩⟩
theorem k140 : Callable Tryd.prog 140 := ⟨⟨_, Tryd.func140, by kernel_rfl, rfl⟩⟩
theorem k141 : Callable Tryd.prog 141 := ⟨⟨_, Tryd.func141, by kernel_rfl, rfl⟩⟩
theorem k142 : Callable Tryd.prog 142 := ⟨⟨_, Tryd.func142, by kernel_rfl, rfl⟩⟩
theorem k143 : Callable Tryd.prog 143 := ⟨⟨_, Tryd.func143, by kernel_rfl, rfl⟩⟩
theorem k144 : Callable Tryd.prog 144 := ⟨⟨_, Tryd.func144, by kernel_rfl, rfl⟩⟩
theorem k145 : Callable Tryd.prog 145 := ⟨⟨_, Tryd.func145, by kernel_rfl, rfl⟩⟩
theorem k146 : Callable Tryd.prog 146 := ⟨⟨_, Tryd.func146, by kernel_rfl, rfl⟩⟩
theorem k147 : Callable Tryd.prog 147 := ⟨⟨_, Tryd.func147, by kernel_rfl, rfl⟩⟩
theorem k148 : Callable Tryd.prog 148 := ⟨⟨_, Tryd.func148, by kernel_rfl, rfl⟩⟩
theorem k149 : Callable Tryd.prog 149 := ⟨⟨_, Tryd.func149, by kernel_rfl, rfl⟩⟩
theorem k150 : Callable Tryd.prog 150 := ⟨⟨_, Tryd.func150, by kernel_rfl, rfl⟩⟩
theorem k151 : Callable Tryd.prog 151 := ⟨⟨_, Tryd.func151, by kernel_rfl, rfl⟩⟩
theorem k152 : Callable Tryd.prog 152 := ⟨⟨_, Tryd.func152, by kernel_rfl, rfl⟩⟩
theorem k153 : Callable Tryd.prog 153 := ⟨⟨_, Tryd.func153, by kernel_rfl, rfl⟩⟩
theorem k154 : Callable Tryd.prog 154 := ⟨⟨_, Tryd.func154, by kernel_rfl, rfl⟩⟩
theorem k155 : Callable Tryd.prog 155 := ⟨⟨_, Tryd.func155, by kernel_rfl, rfl⟩⟩
theorem k156 : Callable Tryd.prog 156 := ⟨⟨_, Tryd.func156, by kernel_rfl, rfl⟩⟩
theorem k157 : Callable Tryd.prog 157 := ⟨⟨_, Tryd.func157, by kernel_rfl, rfl⟩⟩
theorem k158 : Callable Tryd.prog 158 := ⟨⟨_, Tryd.func158, by kernel_rfl, rfl⟩⟩
theorem T3 : TyI Tryd.prog 3 1 false [.int .i64 0] := ⟨by kernel_rfl, by kernel_rfl⟩
theorem T4 : TyI Tryd.prog 4 1 false [.bool false] := ⟨by kernel_rfl, by kernel_rfl⟩
theorem T5 : TyI Tryd.prog 5 1 false [.int .u8 0] := ⟨by kernel_rfl, by kernel_rfl⟩
theorem T22 : TyI Tryd.prog 22 16 true [.int .u8 0, .int .u8 0, .int .u8 0, .int .u8 0, .int .u8 0, .int .u8 0, .int .u8 0, .int .u8 0, .int .u8 0, .int .u8 0, .int .u8 0, .int .u8 0, .int .u8 0, .int .u8 0, .int .u8 0, .int .u8 0] := ⟨by kernel_rfl, by kernel_rfl⟩
theorem T24 : TyI Tryd.prog 24 17 true [.int .i64 0, .int .u8 0, .int .u8 0, .int .u8 0, .int .u8 0, .int .u8 0, .int .u8 0, .int .u8 0, .int .u8 0, .int .u8 0, .int .u8 0, .int .u8 0, .int .u8 0, .int .u8 0, .int .u8 0, .int .u8 0, .int .u8 0] := ⟨by kernel_rfl, by kernel_rfl⟩
theorem T25 : TyI Tryd.prog 25 1 false [.slice none 0 0] := ⟨by kernel_rfl, by kernel_rfl⟩
theorem T26 : TyI Tryd.prog 26 1 false [.slice none 0 0] := ⟨by kernel_rfl, by kernel_rfl⟩
theorem T31 : TyI Tryd.prog 31 1 false [.int .i64 0] := ⟨by kernel_rfl, by kernel_rfl⟩
theorem T132 : TyI Tryd.prog 132 1 false [.slice none 0 0] := ⟨by kernel_rfl, by kernel_rfl⟩
theorem T102 : TyI Tryd.prog 102 1 false [.slice none 0 0] := ⟨by kernel_rfl, by kernel_rfl⟩
theorem T93 : TyI Tryd.prog 93 2 true [.int .i64 0, .slice none 0 0] := ⟨by kernel_rfl, by kernel_rfl⟩
theorem T28 : TyI Tryd.prog 28 43 true [.int .i64 0, .int .i64 0, .bool false, .bool false, .int .i64 0, .int .i64 0, .int .i64 0, .int .i64 0, .int .u8 0, .int .u8 0, .int .u8 0, .int .u8 0, .int .u8 0, .int .u8 0, .int .u8 0, .int .u8 0, .int .u8 0, .int .u8 0, .int .u8 0, .int .u8 0, .int .u8 0, .int .u8 0, .int .u8 0, .int .u8 0, .int .i64 0, .int .u8 0, .int .u8 0, .int .u8 0, .int .u8 0, .int .u8 0, .int .u8 0, .int .u8 0, .int .u8 0, .int .u8 0, .int .u8 0, .int .u8 0, .int .u8 0, .int .u8 0, .int .u8 0, .int .u8 0, .int .u8 0, .slice none 0 0, .slice none 0 0] := ⟨by kernel_rfl, by kernel_rfl⟩
theorem T73 : TyI Tryd.prog 73 4 true [.int .i64 0, .int .i64 0, .bool false, .slice none 0 0] := ⟨by kernel_rfl, by kernel_rfl⟩
theorem T82 : TyI Tryd.prog 82 9 true [.int .i64 0, .int .i64 0, .int .i64 0, .int .i64 0, .int .i64 0, .int .i64 0, .int .i64 0, .slice none 0 0, .slice none 0 0] := ⟨by kernel_rfl, by kernel_rfl⟩
theorem T51 : TyI Tryd.prog 51 2 true [.slice none 0 0, .int .i64 0] := ⟨by kernel_rfl, by kernel_rfl⟩
theorem T55 : TyI Tryd.prog 55 2 true [.slice none 0 0, .slice none 0 0] := ⟨by kernel_rfl, by kernel_rfl⟩
theorem T114 : TyI Tryd.prog 114 3 true [.slice none 0 0, .int .i64 0, .slice none 0 0] := ⟨by kernel_rfl, by kernel_rfl⟩
theorem T117 : TyI Tryd.prog 117 2 true [.slice none 0 0, .slice none 0 0] := ⟨by kernel_rfl, by kernel_rfl⟩
theorem T130 : TyI Tryd.prog 130 12 true [.int .i64 0, .int .i64 0, .int .i64 0, .int .i64 0, .int .i64 0, .int .i64 0, .int .i64 0, .int .i64 0, .int .i64 0, .int .i64 0, .int .i64 0, .int .i64 0] := ⟨by kernel_rfl, by kernel_rfl⟩
theorem T163 : TyI Tryd.prog 163 4 true [.int .i64 0, .int .i64 0, .int .i64 0, .int .i64 0] := ⟨by kernel_rfl, by kernel_rfl⟩
theorem T166 : TyI Tryd.prog 166 10 true [.int .i64 0, .int .i64 0, .int .i64 0, .int .i64 0, .int .i64 0, .int .i64 0, .int .i64 0, .int .i64 0, .int .i64 0, .int .i64 0] := ⟨by kernel_rfl, by kernel_rfl⟩
theorem T181 : TyI Tryd.prog 181 3 true [.int .i64 0, .int .i64 0, .int .i64 0] := ⟨by kernel_rfl, by kernel_rfl⟩
theorem T67 : TyI Tryd.prog 67 2 true [.int .i64 0, .int .i64 0] := ⟨by kernel_rfl, by kernel_rfl⟩
theorem T183 : TyI Tryd.prog 183 9 true [.int .u64 0, .int .u64 0, .int .u64 0, .int .u64 0, .int .u64 0, .int .u64 0, .int .u64 0, .int .u64 0, .int .u64 0] := ⟨by kernel_rfl, by kernel_rfl⟩
theorem T182 : TyI Tryd.prog 182 1 false [.int .u64 0] := ⟨by kernel_rfl, by kernel_rfl⟩
theorem T48 : TyI Tryd.prog 48 1 false [.slice none 0 0] := ⟨by kernel_rfl, by kernel_rfl⟩
theorem T53 : TyI Tryd.prog 53 1 false [.slice none 0 0] := ⟨by kernel_rfl, by kernel_rfl⟩
theorem T104 : TyI Tryd.prog 104 1 false [.slice none 0 0] := ⟨by kernel_rfl, by kernel_rfl⟩
theorem T112 : TyI Tryd.prog 112 1 false [.slice none 0 0] := ⟨by kernel_rfl, by kernel_rfl⟩
theorem T49 : TyI Tryd.prog 49 1 false [.pointer none] := ⟨by kernel_rfl, by kernel_rfl⟩
theorem T144 : TyI Tryd.prog 144 46 true [.int .i64 0, .slice none 0 0, .int .i64 0, .int .i64 0, .bool false, .bool false, .int .i64 0, .int .i64 0, .int .i64 0, .int .i64 0, .int .u8 0, .int .u8 0, .int .u8 0, .int .u8 0, .int .u8 0, .int .u8 0, .int .u8 0, .int .u8 0, .int .u8 0, .int .u8 0, .int .u8 0, .int .u8 0, .int .u8 0, .int .u8 0, .int .u8 0, .int .u8 0, .int .i64 0, .int .u8 0, .int .u8 0, .int .u8 0, .int .u8 0, .int .u8 0, .int .u8 0, .int .u8 0, .int .u8 0, .int .u8 0, .int .u8 0, .int .u8 0, .int .u8 0, .int .u8 0, .int .u8 0, .int .u8 0, .int .u8 0, .slice none 0 0, .slice none 0 0, .slice none 0 0] := ⟨by kernel_rfl, by kernel_rfl⟩
theorem T158 : TyI Tryd.prog 158 51 true [.int .i64 0, .int .i64 0, .int .u8 0, .int .u8 0, .int .u8 0, .int .u8 0, .int .u8 0, .int .u8 0, .int .u8 0, .int .u8 0, .int .u8 0, .int .u8 0, .int .u8 0, .int .u8 0, .int .u8 0, .int .u8 0, .int .u8 0, .int .u8 0, .int .i64 0, .int .u8 0, .int .u8 0, .int .u8 0, .int .u8 0, .int .u8 0, .int .u8 0, .int .u8 0, .int .u8 0, .int .u8 0, .int .u8 0, .int .u8 0, .int .u8 0, .int .u8 0, .int .u8 0, .int .u8 0, .int .u8 0, .slice none 0 0, .int .i64 0, .int .i64 0, .bool false, .slice none 0 0, .int .i64 0, .int .i64 0, .int .i64 0, .int .i64 0, .int .i64 0, .int .i64 0, .int .i64 0, .slice none 0 0, .slice none 0 0, .slice none 0 0, .int .i64 0] := ⟨by kernel_rfl, by kernel_rfl⟩
theorem T186 : TyI Tryd.prog 186 0 true [] := ⟨by kernel_rfl, by kernel_rfl⟩
theorem e26 : ElT Tryd.prog 26 5 1 1 [.int .u8 0] := ⟨Tryd.underlying26, by kernel_rfl, rfl, by decide⟩
theorem e132 : ElT Tryd.prog 132 3 1 8 [.int .i64 0] := ⟨Tryd.underlying132, by kernel_rfl, rfl, by decide⟩
theorem e25 : ElT Tryd.prog 25 93 2 32 [.int .i64 0, .slice none 0 0] := ⟨Tryd.underlying25, by kernel_rfl, rfl, by decide⟩
theorem e102 : ElT Tryd.prog 102 26 1 24 [.slice none 0 0] := ⟨Tryd.underlying102, by kernel_rfl, rfl, by decide⟩
theorem e104 : ElT Tryd.prog 104 102 1 24 [.slice none 0 0] := ⟨Tryd.underlying104, by kernel_rfl, rfl, by decide⟩
theorem e53 : ElT Tryd.prog 53 25 1 24 [.slice none 0 0] := ⟨Tryd.underlying53, by kernel_rfl, rfl, by decide⟩
theorem e43 : ElT Tryd.prog 43 144 46 200 [.int .i64 0, .slice none 0 0, .int .i64 0, .int .i64 0, .bool false, .bool false, .int .i64 0, .int .i64 0, .int .i64 0, .int .i64 0, .int .u8 0, .int .u8 0, .int .u8 0, .int .u8 0, .int .u8 0, .int .u8 0, .int .u8 0, .int .u8 0, .int .u8 0, .int .u8 0, .int .u8 0, .int .u8 0, .int .u8 0, .int .u8 0, .int .u8 0, .int .u8 0, .int .i64 0, .int .u8 0, .int .u8 0, .int .u8 0, .int .u8 0, .int .u8 0, .int .u8 0, .int .u8 0, .int .u8 0, .int .u8 0, .int .u8 0, .int .u8 0, .int .u8 0, .int .u8 0, .int .u8 0, .int .u8 0, .int .u8 0, .slice none 0 0, .slice none 0 0, .slice none 0 0] := ⟨Tryd.underlying43, by kernel_rfl, rfl, by decide⟩
theorem e48 : ElT Tryd.prog 48 67 2 16 [.int .i64 0, .int .i64 0] := ⟨Tryd.underlying48, by kernel_rfl, rfl, by decide⟩
theorem e112 : ElT Tryd.prog 112 49 1 8 [.pointer none] := ⟨Tryd.underlying112, by kernel_rfl, rfl, by decide⟩
theorem fo28_0 : fldO Tryd.prog 28 0 = some 0 := by kernel_rfl
theorem fo28_1 : fldO Tryd.prog 28 1 = some 1 := by kernel_rfl
theorem fo28_2 : fldO Tryd.prog 28 2 = some 2 := by kernel_rfl
theorem fo28_3 : fldO Tryd.prog 28 3 = some 3 := by kernel_rfl
theorem fo28_4 : fldO Tryd.prog 28 4 = some 4 := by kernel_rfl
theorem fo28_5 : fldO Tryd.prog 28 5 = some 5 := by kernel_rfl
theorem fo28_6 : fldO Tryd.prog 28 6 = some 6 := by kernel_rfl
theorem fo28_7 : fldO Tryd.prog 28 7 = some 7 := by kernel_rfl
theorem fo28_8 : fldO Tryd.prog 28 8 = some 24 := by kernel_rfl
theorem fo28_9 : fldO Tryd.prog 28 9 = some 41 := by kernel_rfl
theorem fo28_10 : fldO Tryd.prog 28 10 = some 42 := by kernel_rfl
theorem B28 : BldT Tryd.prog 28 [(0, 1), (1, 1), (2, 1), (3, 1), (4, 1), (5, 1), (6, 1), (7, 17), (24, 17), (41, 1), (42, 1)] [.int .i64 0, .int .i64 0, .bool false, .bool false, .int .i64 0, .int .i64 0, .int .i64 0, .int .i64 0, .int .u8 0, .int .u8 0, .int .u8 0, .int .u8 0, .int .u8 0, .int .u8 0, .int .u8 0, .int .u8 0, .int .u8 0, .int .u8 0, .int .u8 0, .int .u8 0, .int .u8 0, .int .u8 0, .int .u8 0, .int .u8 0, .int .i64 0, .int .u8 0, .int .u8 0, .int .u8 0, .int .u8 0, .int .u8 0, .int .u8 0, .int .u8 0, .int .u8 0, .int .u8 0, .int .u8 0, .int .u8 0, .int .u8 0, .int .u8 0, .int .u8 0, .int .u8 0, .int .u8 0, .slice none 0 0, .slice none 0 0] := ⟨fun _ => by kernel_rfl, fun _ => by kernel_rfl, ⟨_, Tryd.underlying28⟩⟩
theorem fo93_0 : fldO Tryd.prog 93 0 = some 0 := by kernel_rfl
theorem fo93_1 : fldO Tryd.prog 93 1 = some 1 := by kernel_rfl
theorem B93 : BldT Tryd.prog 93 [(0, 1), (1, 1)] [.int .i64 0, .slice none 0 0] := ⟨fun _ => by kernel_rfl, fun _ => by kernel_rfl, ⟨_, Tryd.underlying93⟩⟩
theorem fo73_0 : fldO Tryd.prog 73 0 = some 0 := by kernel_rfl
theorem fo73_1 : fldO Tryd.prog 73 1 = some 1 := by kernel_rfl
theorem fo73_2 : fldO Tryd.prog 73 2 = some 2 := by kernel_rfl
theorem fo73_3 : fldO Tryd.prog 73 3 = some 3 := by kernel_rfl
theorem B73 : BldT Tryd.prog 73 [(0, 1), (1, 1), (2, 1), (3, 1)] [.int .i64 0, .int .i64 0, .bool false, .slice none 0 0] := ⟨fun _ => by kernel_rfl, fun _ => by kernel_rfl, ⟨_, Tryd.underlying73⟩⟩
theorem fo82_0 : fldO Tryd.prog 82 0 = some 0 := by kernel_rfl
theorem fo82_1 : fldO Tryd.prog 82 1 = some 1 := by kernel_rfl
theorem fo82_2 : fldO Tryd.prog 82 2 = some 2 := by kernel_rfl
theorem fo82_3 : fldO Tryd.prog 82 3 = some 3 := by kernel_rfl
theorem fo82_4 : fldO Tryd.prog 82 4 = some 4 := by kernel_rfl
theorem fo82_5 : fldO Tryd.prog 82 5 = some 5 := by kernel_rfl
theorem fo82_6 : fldO Tryd.prog 82 6 = some 6 := by kernel_rfl
theorem fo82_7 : fldO Tryd.prog 82 7 = some 7 := by kernel_rfl
theorem fo82_8 : fldO Tryd.prog 82 8 = some 8 := by kernel_rfl
theorem B82 : BldT Tryd.prog 82 [(0, 1), (1, 1), (2, 1), (3, 1), (4, 1), (5, 1), (6, 1), (7, 1), (8, 1)] [.int .i64 0, .int .i64 0, .int .i64 0, .int .i64 0, .int .i64 0, .int .i64 0, .int .i64 0, .slice none 0 0, .slice none 0 0] := ⟨fun _ => by kernel_rfl, fun _ => by kernel_rfl, ⟨_, Tryd.underlying82⟩⟩
theorem fo24_0 : fldO Tryd.prog 24 0 = some 0 := by kernel_rfl
theorem fo24_1 : fldO Tryd.prog 24 1 = some 1 := by kernel_rfl
theorem B24 : BldT Tryd.prog 24 [(0, 1), (1, 16)] [.int .i64 0, .int .u8 0, .int .u8 0, .int .u8 0, .int .u8 0, .int .u8 0, .int .u8 0, .int .u8 0, .int .u8 0, .int .u8 0, .int .u8 0, .int .u8 0, .int .u8 0, .int .u8 0, .int .u8 0, .int .u8 0, .int .u8 0] := ⟨fun _ => by kernel_rfl, fun _ => by kernel_rfl, ⟨_, Tryd.underlying24⟩⟩
theorem fo51_0 : fldO Tryd.prog 51 0 = some 0 := by kernel_rfl
theorem fo51_1 : fldO Tryd.prog 51 1 = some 1 := by kernel_rfl
theorem B51 : BldT Tryd.prog 51 [(0, 1), (1, 1)] [.slice none 0 0, .int .i64 0] := ⟨fun _ => by kernel_rfl, fun _ => by kernel_rfl, ⟨_, Tryd.underlying51⟩⟩
theorem fo55_0 : fldO Tryd.prog 55 0 = some 0 := by kernel_rfl
theorem fo55_1 : fldO Tryd.prog 55 1 = some 1 := by kernel_rfl
theorem B55 : BldT Tryd.prog 55 [(0, 1), (1, 1)] [.slice none 0 0, .slice none 0 0] := ⟨fun _ => by kernel_rfl, fun _ => by kernel_rfl, ⟨_, Tryd.underlying55⟩⟩
theorem fo117_0 : fldO Tryd.prog 117 0 = some 0 := by kernel_rfl
theorem fo117_1 : fldO Tryd.prog 117 1 = some 1 := by kernel_rfl
theorem B117 : BldT Tryd.prog 117 [(0, 1), (1, 1)] [.slice none 0 0, .slice none 0 0] := ⟨fun _ => by kernel_rfl, fun _ => by kernel_rfl, ⟨_, Tryd.underlying117⟩⟩
theorem fo114_0 : fldO Tryd.prog 114 0 = some 0 := by kernel_rfl
theorem fo114_1 : fldO Tryd.prog 114 1 = some 1 := by kernel_rfl
theorem fo114_2 : fldO Tryd.prog 114 2 = some 2 := by kernel_rfl
theorem B114 : BldT Tryd.prog 114 [(0, 1), (1, 1), (2, 1)] [.slice none 0 0, .int .i64 0, .slice none 0 0] := ⟨fun _ => by kernel_rfl, fun _ => by kernel_rfl, ⟨_, Tryd.underlying114⟩⟩
theorem fo144_0 : fldO Tryd.prog 144 0 = some 0 := by kernel_rfl
theorem fo144_1 : fldO Tryd.prog 144 1 = some 1 := by kernel_rfl
theorem fo144_2 : fldO Tryd.prog 144 2 = some 2 := by kernel_rfl
theorem fo144_3 : fldO Tryd.prog 144 3 = some 45 := by kernel_rfl
theorem B144 : BldT Tryd.prog 144 [(0, 1), (1, 1), (2, 43), (45, 1)] [.int .i64 0, .slice none 0 0, .int .i64 0, .int .i64 0, .bool false, .bool false, .int .i64 0, .int .i64 0, .int .i64 0, .int .i64 0, .int .u8 0, .int .u8 0, .int .u8 0, .int .u8 0, .int .u8 0, .int .u8 0, .int .u8 0, .int .u8 0, .int .u8 0, .int .u8 0, .int .u8 0, .int .u8 0, .int .u8 0, .int .u8 0, .int .u8 0, .int .u8 0, .int .i64 0, .int .u8 0, .int .u8 0, .int .u8 0, .int .u8 0, .int .u8 0, .int .u8 0, .int .u8 0, .int .u8 0, .int .u8 0, .int .u8 0, .int .u8 0, .int .u8 0, .int .u8 0, .int .u8 0, .int .u8 0, .int .u8 0, .slice none 0 0, .slice none 0 0, .slice none 0 0] := ⟨fun _ => by kernel_rfl, fun _ => by kernel_rfl, ⟨_, Tryd.underlying144⟩⟩
theorem fo158_0 : fldO Tryd.prog 158 0 = some 0 := by kernel_rfl
theorem fo158_1 : fldO Tryd.prog 158 1 = some 1 := by kernel_rfl
theorem fo158_2 : fldO Tryd.prog 158 2 = some 18 := by kernel_rfl
theorem fo158_3 : fldO Tryd.prog 158 3 = some 35 := by kernel_rfl
theorem fo158_4 : fldO Tryd.prog 158 4 = some 36 := by kernel_rfl
theorem fo158_5 : fldO Tryd.prog 158 5 = some 40 := by kernel_rfl
theorem fo158_6 : fldO Tryd.prog 158 6 = some 49 := by kernel_rfl
theorem fo158_7 : fldO Tryd.prog 158 7 = some 50 := by kernel_rfl
theorem B158 : BldT Tryd.prog 158 [(0, 1), (1, 17), (18, 17), (35, 1), (36, 4), (40, 9), (49, 1), (50, 1)] [.int .i64 0, .int .i64 0, .int .u8 0, .int .u8 0, .int .u8 0, .int .u8 0, .int .u8 0, .int .u8 0, .int .u8 0, .int .u8 0, .int .u8 0, .int .u8 0, .int .u8 0, .int .u8 0, .int .u8 0, .int .u8 0, .int .u8 0, .int .u8 0, .int .i64 0, .int .u8 0, .int .u8 0, .int .u8 0, .int .u8 0, .int .u8 0, .int .u8 0, .int .u8 0, .int .u8 0, .int .u8 0, .int .u8 0, .int .u8 0, .int .u8 0, .int .u8 0, .int .u8 0, .int .u8 0, .int .u8 0, .slice none 0 0, .int .i64 0, .int .i64 0, .bool false, .slice none 0 0, .int .i64 0, .int .i64 0, .int .i64 0, .int .i64 0, .int .i64 0, .int .i64 0, .int .i64 0, .slice none 0 0, .slice none 0 0, .slice none 0 0, .int .i64 0] := ⟨fun _ => by kernel_rfl, fun _ => by kernel_rfl, ⟨_, Tryd.underlying158⟩⟩
end Go.Proofs.YtkahmepenjhcpaaDoor.W
