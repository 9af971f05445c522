/- A part of the proof. -/
import Derived.Test.YtbhbeakhognieaaGreatDoorWj
import Derived.Test.YtbhbeakhognieaaGreatDoorWn
import Derived.Test.YtbhbeakhognieaaGreatDoorTie
import Derived.Test.YtbhbeakhognieaaGreatDoorCards
import Derived.LaidMore
import Derived.SevenTiedAt
import Derived.LaidHandle
set_option linter.all false
set_option maxRecDepth 100000
set_option maxHeartbeats 8000000
open Option renaming bind_some → J, map_some → yt
open List renaming range_succ → y0, map_map → y5, length_map → y7, all_eq_true → y8, length_append → yb, getElem?_map → yc, getElem?_eq_getElem → yg, getElem?_eq_some_iff → yh, drop_eq_getElem_cons → yj, map_cons → yk, drop_eq_nil_of_le → yn, append_assoc → yo, mem_cons_self → yp, mem_append → yq, flatten_cons → yv, mem_cons → yw, append_nil → yz, length_cons → yA, mem_of_getElem? → yD, getElem_mem → yF, mem_cons_of_mem → yG, map_congr_left → yH, nodup_append → yN, mem_map → yQ, map_nil → yR, take_of_length_le → yS, mem_flatMap → yV, nil_append → yW, getElem?_cons_succ → yZ, getElem?_cons_zero → Y01, mem_singleton → Y03, getElem?_eq_none → Y07
open Int renaming toNat_lt → y6
open Bool renaming and_eq_true → ye
open Nat renaming le_refl → yf, zero_add → yr, le_trans → yB, add_zero → yJ
open Array renaming toArray_toList → yX
namespace Go.Proofs.YtbhbeakhognieaaGreatDoor
open Go
def chS0:C:=.reg [⟨(.some 3),(.box 25 (.t 1)),.none⟩,⟨(.some 4),(.mv (.c (.int .i64 0))),.none⟩]
def chS1:C:=.seq (.reg [⟨(.some 12),(.faddr 1 (.t 3)),.none⟩,⟨(.some 13),(.load (.root 3) .false 1 (.t 12)),.none⟩,⟨(.some 14),(.bin .lss .false (.t 13) (.c (.int .i64 0))),.none⟩,⟨(.some 15),(.mv (.t 14)),.none⟩,⟨(.some 16),(.faddr 1 (.t 3)),(.some (15,.false))⟩,⟨(.some 17),(.load (.root 3) .false 1 (.t 16)),(.some (15,.false))⟩,⟨(.some 18),(.mv (.t 0)),(.some (15,.false))⟩,⟨(.some 19),(.nilchk (.t 18)),(.some (15,.false))⟩,⟨(.some 20),(.faddr 0 (.t 19)),(.some (15,.false))⟩,⟨(.some 21),(.load .any .false 1 (.t 20)),(.some (15,.false))⟩,⟨(.some 22),(.len .false (.t 21)),(.some (15,.false))⟩,⟨(.some 23),(.bin .geq .false (.t 17) (.t 22)),(.some (15,.false))⟩,⟨(.some 24),(.pick (.t 15) (.c (.bool .true)) (.t 23)),.none⟩]) (.cond (.t 24) (.seq (.reg [⟨(.some 4),(.mv (.c (.int .i64 4))),.none⟩]) .ret) .skip)
def chS2:C:=.reg [⟨(.some 25),(.mv (.t 0)),.none⟩,⟨(.some 26),(.nilchk (.t 25)),.none⟩,⟨(.some 27),(.faddr 0 (.t 26)),.none⟩,⟨(.some 28),(.load (.out [3,5,5]) .false 1 (.t 27)),.none⟩,⟨(.some 29),(.faddr 1 (.t 3)),.none⟩,⟨(.some 30),(.load (.root 3) .false 1 (.t 29)),.none⟩,⟨(.some 31),(.iaddr 10 (.t 28) (.t 30)),.none⟩,⟨(.some 5),(.alloc [.nilP]),.none⟩,⟨.none,(.store (.root 5) .false 1 (.t 5) (.t 31)),.none⟩]
def chS3:C:=.seq (.reg [⟨(.some 32),(.faddr 0 (.t 3)),.none⟩,⟨(.some 33),(.load (.root 3) .false 1 (.t 32)),.none⟩,⟨(.some 34),(.load (.root 5) .false 1 (.t 5)),.none⟩,⟨(.some 35),(.nilchk (.t 34)),.none⟩,⟨(.some 36),(.faddr 0 (.t 35)),.none⟩,⟨(.some 37),(.load .any .false 1 (.t 36)),.none⟩,⟨(.some 38),(.callq .any 64 [(.t 33),(.t 37)]),.none⟩,⟨(.some 39),(.un .not (.t 38)),.none⟩]) (.cond (.t 39) (.seq (.reg [⟨(.some 4),(.mv (.c (.int .i64 1))),.none⟩]) .ret) .skip)
def uI:C:=.seq (.reg [⟨(.some 40),(.faddr 0 (.t 3)),.none⟩,⟨(.some 41),(.load .any .false 1 (.t 40)),.none⟩]) (.block 0 (.seq (.reg [⟨(.some 43),(.bin .eql .false (.t 41) (.c (.int .i64 1))),.none⟩,⟨(.some 42),(.mv (.t 43)),.none⟩]) (.cond (.t 42) (.seq (.seq (.reg [⟨(.some 44),(.load (.root 5) .false 1 (.t 5)),.none⟩,⟨(.some 45),(.nilchk (.t 44)),.none⟩,⟨(.some 46),(.load .any .true 10 (.t 45)),.none⟩,⟨(.some 47),(.faddr 4 (.t 3)),.none⟩,⟨(.some 48),(.faddr 0 (.t 47)),.none⟩,⟨(.some 49),(.load (.root 3) .false 1 (.t 48)),.none⟩,⟨(.some 50),(.callq .any 65 [(.t 46),(.t 49)]),.none⟩,⟨(.some 51),(.bin .geq .false (.t 50) (.c (.int .i64 0))),.none⟩]) (.cond (.t 51) (.seq (.reg [⟨(.some 4),(.mv (.c (.int .i64 5))),.none⟩]) .ret) .skip)) (.seq (.reg [⟨(.some 52),(.load .any .false 1 (.t 5)),.none⟩,⟨(.some 53),(.nilchk (.t 52)),.none⟩,⟨(.some 54),(.faddr 6 (.t 53)),.none⟩,⟨(.some 55),(.load .any .false 1 (.t 54)),.none⟩,⟨(.some 56),(.len .false (.t 55)),.none⟩,⟨(.some 57),(.mkf 67 [(.t 5),(.t 3)]),.none⟩,⟨(.some 58),(.callh 225 (.c (.fn 66 [])) [(.t 56),(.t 57)]),.none⟩,⟨(.some 6),(.mv (.t 58)),.none⟩]) (.reg [⟨(.some 59),(.load (.root 5) .false 1 (.t 5)),.none⟩,⟨(.some 60),(.load (.root 5) .false 1 (.t 5)),.none⟩,⟨(.some 61),(.nilchk (.t 60)),.none⟩,⟨(.some 62),(.faddr 6 (.t 61)),.none⟩,⟨(.some 63),(.load .any .false 1 (.t 62)),.none⟩,⟨(.some 64),(.mv (.t 6)),.none⟩,⟨(.some 65),(.faddr 4 (.t 3)),.none⟩,⟨(.some 66),(.load (.root 3) .true 13 (.t 65)),.none⟩,⟨(.some 67),(.bsl [(.int .i64 0),(.str (ByteArray.mk #[])),(.int .i64 0),(.bool .false),(.bool .false),(.int .i64 0),(.bool .false),(.int .i64 0),(.str (ByteArray.mk #[])),(.int .i64 0),(.sl .true []),(.sl .true []),(.sl .true [])] 1 [(0,(.t 66))]),.none⟩,⟨(.some 68),(.calln .any 68 13 [3,5] (.t 63) [(.t 64),(.t 67)]),.none⟩,⟨(.some 69),(.nilchk (.t 59)),.none⟩,⟨(.some 70),(.faddr 6 (.t 69)),.none⟩,⟨.none,(.store (.out [3,5]) .false 1 (.t 70) (.t 68)),.none⟩]))) (.seq (.reg [⟨(.some 72),(.bin .eql .false (.t 41) (.c (.int .i64 2))),.none⟩,⟨(.some 71),(.mv (.t 72)),.none⟩]) (.cond (.t 71) (.seq (.reg [⟨(.some 73),(.load (.root 5) .false 1 (.t 5)),.none⟩,⟨(.some 74),(.nilchk (.t 73)),.none⟩,⟨(.some 75),(.load .any .true 10 (.t 74)),.none⟩,⟨(.some 76),(.faddr 2 (.t 3)),.none⟩,⟨(.some 77),(.load (.root 3) .false 1 (.t 76)),.none⟩,⟨(.some 78),(.callq .any 65 [(.t 75),(.t 77)]),.none⟩,⟨(.some 7),(.mv (.t 78)),.none⟩]) (.seq (.seq (.reg [⟨(.some 79),(.mv (.t 7)),.none⟩,⟨(.some 80),(.bin .lss .false (.t 79) (.c (.int .i64 0))),.none⟩]) (.cond (.t 80) (.seq (.reg [⟨(.some 4),(.mv (.c (.int .i64 4))),.none⟩]) .ret) .skip)) (.reg [⟨(.some 81),(.load (.root 5) .false 1 (.t 5)),.none⟩,⟨(.some 82),(.load (.root 5) .false 1 (.t 5)),.none⟩,⟨(.some 83),(.nilchk (.t 82)),.none⟩,⟨(.some 84),(.faddr 6 (.t 83)),.none⟩,⟨(.some 85),(.load .any .false 1 (.t 84)),.none⟩,⟨(.some 86),(.mv (.t 7)),.none⟩,⟨(.some 87),(.mv (.t 7)),.none⟩,⟨(.some 88),(.bin .add .false (.t 87) (.c (.int .i64 1))),.none⟩,⟨(.some 89),(.calln .any 69 13 [3,5] (.t 85) [(.t 86),(.t 88)]),.none⟩,⟨(.some 90),(.nilchk (.t 81)),.none⟩,⟨(.some 91),(.faddr 6 (.t 90)),.none⟩,⟨.none,(.store (.out [3,5]) .false 1 (.t 91) (.t 89)),.none⟩]))) (.seq (.reg [⟨(.some 93),(.bin .eql .false (.t 41) (.c (.int .i64 3))),.none⟩,⟨(.some 92),(.mv (.t 93)),.none⟩]) (.cond (.t 92) (.seq (.reg [⟨(.some 94),(.load (.root 5) .false 1 (.t 5)),.none⟩,⟨(.some 95),(.nilchk (.t 94)),.none⟩,⟨(.some 96),(.load .any .true 10 (.t 95)),.none⟩,⟨(.some 97),(.faddr 4 (.t 3)),.none⟩,⟨(.some 98),(.faddr 0 (.t 97)),.none⟩,⟨(.some 99),(.load (.root 3) .false 1 (.t 98)),.none⟩,⟨(.some 100),(.callq .any 65 [(.t 96),(.t 99)]),.none⟩,⟨(.some 8),(.mv (.t 100)),.none⟩]) (.seq (.seq (.reg [⟨(.some 101),(.mv (.t 8)),.none⟩,⟨(.some 102),(.bin .lss .false (.t 101) (.c (.int .i64 0))),.none⟩]) (.cond (.t 102) (.seq (.reg [⟨(.some 4),(.mv (.c (.int .i64 4))),.none⟩]) .ret) .skip)) (.reg [⟨(.some 103),(.load (.root 5) .false 1 (.t 5)),.none⟩,⟨(.some 104),(.nilchk (.t 103)),.none⟩,⟨(.some 105),(.faddr 6 (.t 104)),.none⟩,⟨(.some 106),(.load .any .false 1 (.t 105)),.none⟩,⟨(.some 107),(.mv (.t 8)),.none⟩,⟨(.some 108),(.faddr 4 (.t 3)),.none⟩,⟨(.some 109),(.load (.root 3) .true 13 (.t 108)),.none⟩,⟨(.some 110),(.iaddr 13 (.t 106) (.t 107)),.none⟩,⟨.none,(.store (.out [3,5]) .true 13 (.t 110) (.t 109)),.none⟩]))) (.seq (.reg [⟨(.some 112),(.bin .eql .false (.t 41) (.c (.int .i64 4))),.none⟩,⟨(.some 111),(.mv (.t 112)),.none⟩]) (.cond (.t 111) (.seq (.seq (.reg [⟨(.some 113),(.load (.root 5) .false 1 (.t 5)),.none⟩,⟨(.some 114),(.nilchk (.t 113)),.none⟩,⟨(.some 115),(.load .any .true 10 (.t 114)),.none⟩,⟨(.some 116),(.faddr 17 (.t 3)),.none⟩,⟨(.some 117),(.faddr 0 (.t 116)),.none⟩,⟨(.some 118),(.load (.root 3) .false 1 (.t 117)),.none⟩,⟨(.some 119),(.callq .any 70 [(.t 115),(.t 118)]),.none⟩,⟨(.some 9),(.mv (.t 119)),.none⟩]) (.seq (.reg [⟨(.some 120),(.mv (.t 9)),.none⟩,⟨(.some 121),(.bin .geq .false (.t 120) (.c (.int .i64 0))),.none⟩]) (.cond (.t 121) (.seq (.reg [⟨(.some 122),(.load (.root 5) .false 1 (.t 5)),.none⟩,⟨(.some 123),(.nilchk (.t 122)),.none⟩,⟨(.some 124),(.faddr 5 (.t 123)),.none⟩,⟨(.some 125),(.load .any .false 1 (.t 124)),.none⟩,⟨(.some 126),(.mv (.t 9)),.none⟩,⟨(.some 127),(.faddr 17 (.t 3)),.none⟩,⟨(.some 128),(.faddr 1 (.t 127)),.none⟩,⟨(.some 129),(.load (.root 3) .false 1 (.t 128)),.none⟩,⟨(.some 130),(.iaddr 2 (.t 125) (.t 126)),.none⟩,⟨(.some 131),(.faddr 1 (.t 130)),.none⟩,⟨.none,(.store (.out [3,5]) .false 1 (.t 131) (.t 129)),.none⟩]) (.seq (.reg [⟨(.some 4),(.mv (.c (.int .i64 0))),.none⟩]) .ret)) .skip))) (.seq (.reg [⟨(.some 132),(.load .any .false 1 (.t 5)),.none⟩,⟨(.some 133),(.nilchk (.t 132)),.none⟩,⟨(.some 134),(.faddr 5 (.t 133)),.none⟩,⟨(.some 135),(.load .any .false 1 (.t 134)),.none⟩,⟨(.some 136),(.len .false (.t 135)),.none⟩,⟨(.some 137),(.mkf 71 [(.t 5),(.t 3)]),.none⟩,⟨(.some 138),(.callh 225 (.c (.fn 66 [])) [(.t 136),(.t 137)]),.none⟩,⟨(.some 10),(.mv (.t 138)),.none⟩]) (.reg [⟨(.some 139),(.load (.root 5) .false 1 (.t 5)),.none⟩,⟨(.some 140),(.load (.root 5) .false 1 (.t 5)),.none⟩,⟨(.some 141),(.nilchk (.t 140)),.none⟩,⟨(.some 142),(.faddr 5 (.t 141)),.none⟩,⟨(.some 143),(.load .any .false 1 (.t 142)),.none⟩,⟨(.some 144),(.mv (.t 10)),.none⟩,⟨(.some 145),(.faddr 17 (.t 3)),.none⟩,⟨(.some 146),(.load (.root 3) .true 2 (.t 145)),.none⟩,⟨(.some 147),(.bsl [(.int .i64 0),(.str (ByteArray.mk #[]))] 1 [(0,(.t 146))]),.none⟩,⟨(.some 148),(.calln .any 72 2 [3,5] (.t 143) [(.t 144),(.t 147)]),.none⟩,⟨(.some 149),(.nilchk (.t 139)),.none⟩,⟨(.some 150),(.faddr 5 (.t 149)),.none⟩,⟨.none,(.store (.out [3,5]) .false 1 (.t 150) (.t 148)),.none⟩]))) (.seq (.reg [⟨(.some 152),(.bin .eql .false (.t 41) (.c (.int .i64 5))),.none⟩,⟨(.some 151),(.mv (.t 152)),.none⟩]) (.cond (.t 151) (.seq (.reg [⟨(.some 153),(.load (.root 5) .false 1 (.t 5)),.none⟩,⟨(.some 154),(.nilchk (.t 153)),.none⟩,⟨(.some 155),(.load .any .true 10 (.t 154)),.none⟩,⟨(.some 156),(.faddr 2 (.t 3)),.none⟩,⟨(.some 157),(.load (.root 3) .false 1 (.t 156)),.none⟩,⟨(.some 158),(.callq .any 70 [(.t 155),(.t 157)]),.none⟩,⟨(.some 11),(.mv (.t 158)),.none⟩]) (.seq (.seq (.reg [⟨(.some 159),(.mv (.t 11)),.none⟩,⟨(.some 160),(.bin .lss .false (.t 159) (.c (.int .i64 0))),.none⟩]) (.cond (.t 160) (.seq (.reg [⟨(.some 4),(.mv (.c (.int .i64 4))),.none⟩]) .ret) .skip)) (.reg [⟨(.some 161),(.load (.root 5) .false 1 (.t 5)),.none⟩,⟨(.some 162),(.load (.root 5) .false 1 (.t 5)),.none⟩,⟨(.some 163),(.nilchk (.t 162)),.none⟩,⟨(.some 164),(.faddr 5 (.t 163)),.none⟩,⟨(.some 165),(.load .any .false 1 (.t 164)),.none⟩,⟨(.some 166),(.mv (.t 11)),.none⟩,⟨(.some 167),(.mv (.t 11)),.none⟩,⟨(.some 168),(.bin .add .false (.t 167) (.c (.int .i64 1))),.none⟩,⟨(.some 169),(.calln .any 73 2 [3,5] (.t 165) [(.t 166),(.t 168)]),.none⟩,⟨(.some 170),(.nilchk (.t 161)),.none⟩,⟨(.some 171),(.faddr 5 (.t 170)),.none⟩,⟨.none,(.store (.out [3,5]) .false 1 (.t 171) (.t 169)),.none⟩]))) (.seq (.reg [⟨(.some 173),(.bin .eql .false (.t 41) (.c (.int .i64 6))),.none⟩,⟨(.some 172),(.mv (.t 173)),.none⟩]) (.cond (.t 172) (.reg [⟨(.some 174),(.load .any .false 1 (.t 5)),.none⟩,⟨(.some 175),(.faddr 3 (.t 3)),.none⟩,⟨(.some 176),(.load .any .false 1 (.t 175)),.none⟩,⟨(.some 177),(.nilchk (.t 174)),.none⟩,⟨(.some 178),(.faddr 1 (.t 177)),.none⟩,⟨.none,(.store .any .false 1 (.t 178) (.t 176)),.none⟩]) (.seq (.reg [⟨(.some 180),(.bin .eql .false (.t 41) (.c (.int .i64 7))),.none⟩,⟨(.some 179),(.mv (.t 180)),.none⟩]) (.cond (.t 179) (.seq (.reg [⟨(.some 181),(.load .any .false 1 (.t 5)),.none⟩,⟨(.some 182),(.nilchk (.t 181)),.none⟩,⟨(.some 183),(.faddr 0 (.t 182)),.none⟩,⟨(.some 184),(.load .any .false 1 (.t 183)),.none⟩,⟨(.some 185),(.bin .eql .false (.t 184) (.c (.int .i64 2))),.none⟩]) (.cond (.t 185) (.reg [⟨(.some 186),(.load (.root 5) .false 1 (.t 5)),.none⟩,⟨(.some 187),(.load (.root 5) .false 1 (.t 5)),.none⟩,⟨(.some 188),(.faddr 19 (.t 3)),.none⟩,⟨(.some 189),(.load (.root 3) .false 1 (.t 188)),.none⟩,⟨(.some 190),(.faddr 20 (.t 3)),.none⟩,⟨(.some 191),(.load (.root 3) .false 1 (.t 190)),.none⟩,⟨(.some 192),(.nilchk (.t 186)),.none⟩,⟨(.some 193),(.faddr 2 (.t 192)),.none⟩,⟨.none,(.store (.out [3,5]) .false 1 (.t 193) (.t 189)),.none⟩,⟨(.some 194),(.nilchk (.t 187)),.none⟩,⟨(.some 195),(.faddr 3 (.t 194)),.none⟩,⟨.none,(.store (.out [3,5]) .false 1 (.t 195) (.t 191)),.none⟩]) (.reg [⟨(.some 196),(.load .any .false 1 (.t 5)),.none⟩,⟨(.some 197),(.faddr 21 (.t 3)),.none⟩,⟨(.some 198),(.load .any .false 1 (.t 197)),.none⟩,⟨(.some 199),(.nilchk (.t 196)),.none⟩,⟨(.some 200),(.faddr 4 (.t 199)),.none⟩,⟨.none,(.store .any .false 1 (.t 200) (.t 198)),.none⟩]))) (.seq (.reg [⟨(.some 202),(.bin .eql .false (.t 41) (.c (.int .i64 8))),.none⟩,⟨(.some 201),(.mv (.t 202)),.none⟩]) (.cond (.t 201) (.reg [⟨(.some 203),(.load .any .false 1 (.t 5)),.none⟩,⟨(.some 204),(.faddr 22 (.t 3)),.none⟩,⟨(.some 205),(.load .any .false 1 (.t 204)),.none⟩,⟨(.some 206),(.nilchk (.t 203)),.none⟩,⟨(.some 207),(.faddr 9 (.t 206)),.none⟩,⟨.none,(.store .any .false 1 (.t 207) (.t 205)),.none⟩]) (.seq (.reg [⟨(.some 209),(.bin .eql .false (.t 41) (.c (.int .i64 9))),.none⟩,⟨(.some 208),(.mv (.t 209)),.none⟩]) (.cond (.t 208) (.seq (.reg [⟨(.some 210),(.load .any .false 1 (.t 5)),.none⟩,⟨(.some 211),(.faddr 24 (.t 3)),.none⟩,⟨(.some 212),(.load .any .false 1 (.t 211)),.none⟩,⟨(.some 213),(.nilchk (.t 210)),.none⟩,⟨(.some 214),(.faddr 8 (.t 213)),.none⟩,⟨.none,(.store .any .false 1 (.t 214) (.t 212)),.none⟩]) (.seq (.reg [⟨(.some 215),(.load .any .false 1 (.t 5)),.none⟩,⟨(.some 216),(.nilchk (.t 215)),.none⟩,⟨(.some 217),(.faddr 0 (.t 216)),.none⟩,⟨(.some 218),(.load .any .false 1 (.t 217)),.none⟩,⟨(.some 219),(.bin .eql .false (.t 218) (.c (.int .i64 8))),.none⟩]) (.cond (.t 219) (.reg [⟨(.some 220),(.load .any .false 1 (.t 5)),.none⟩,⟨(.some 221),(.faddr 23 (.t 3)),.none⟩,⟨(.some 222),(.load .any .false 1 (.t 221)),.none⟩,⟨(.some 223),(.nilchk (.t 220)),.none⟩,⟨(.some 224),(.faddr 7 (.t 223)),.none⟩,⟨.none,(.store .any .false 1 (.t 224) (.t 222)),.none⟩]) .skip))) .skip)))))))))))))))))))
def chS5:C:=.reg [⟨(.some 4),(.mv (.c (.int .i64 0))),.none⟩]
def chS6:C:=.ret
theorem chS_code:PB.code=.seq chS0 (.seq chS1 (.seq chS2 (.seq chS3 (.seq uI (.seq chS5 chS6))))):=rfl
structure EdR (e:RB) (R:List rA):Prop where
 d0:R[0]?=some ⟨.int .i64 e.kind,.no⟩
 d1:R[1]?=some ⟨.int .i64 e.ty,.no⟩
 d2:R[2]?=some ⟨.int .i64 e.id,.no⟩
 d3:R[3]?=some ⟨.str e.name,.no⟩
 d4:R[4]?=some ⟨.int .i64 e.mem.id,.no⟩
 d17:R[17]?=some ⟨.int .i64 e.sym.id,.no⟩
 d18:R[18]?=some ⟨.str e.sym.name,.no⟩
 d19:R[19]?=some ⟨.int .i64 e.low,.no⟩
 d20:R[20]?=some ⟨.int .i64 e.high,.no⟩
 d21:R[21]?=some ⟨.int .i64 e.max,.no⟩
 d22:R[22]?=some ⟨.bool e.opn,.no⟩
 d23:R[23]?=some ⟨.int .i64 e.key,.no⟩
 d24:R[24]?=some ⟨.int .i64 e.elem,.no⟩
 dm:aA true 13 4 R=some ⟨.agg (fA e.mem),.no⟩
 ds:aA true 2 17 R=some ⟨.agg (jA e.sym),.no⟩
theorem edR (e:RB):EdR e ((tC e).map (⟨·,.no⟩)):=⟨rfl,rfl,rfl,rfl,rfl,rfl,rfl,rfl,rfl,rfl,rfl,rfl,rfl,rfl,rfl⟩
theorem nX.up {L:List QA} {W:List (rA × rA)} {N0 nx nx':Nat} {V0:AV} {mem:Nat->Nat->Option (List rA)} (h:nX L W N0 nx V0 mem) (hx:nx<=nx'):nX L W N0 nx' V0 mem :=
 ⟨h.len,h.v0.imp_right fun ⟨h1,h2,h3,h4⟩=>⟨h1,h2,h3,by omega⟩,fun i t w ht hw=>let ⟨c1,c2⟩:=h.cell i t w ht hw; ⟨c1.up (fun _ _ _ _=>rfl) hx,c2.up (fun _ _ _ _=>rfl) hx⟩,h.nd⟩
structure zW (L:List QA) (W:List (rA × rA)) (N0 k n3 n5:Nat) (V0:AV) (e:RB) (R3:List rA) (s0 s:pA):Prop where
 e3:(s.env 3).v=.ptr 3 n3 0
 e5:(s.env 5).v=.ptr 5 n5 0
 m3:s.mem 3 n3=some R3
 m5:s.mem 5 n5=some [⟨.ptr 9 N0 (k * 10),.no⟩]
 ed:EdR e R3
 ty:nX L W N0 s.next V0 s.mem
 kp:fN N0 s0 s
def iE (L:List QA) (W:List (rA × rA)) (N0 k:Nat) (V0:AV) (t:QA) (e:RB) (s0 s:pA):Prop:=∃ w',nX (L.set k (mA t e).2) (W.set k w') N0 s.next V0 s.mem/\fN N0 s0 s
section
variable {r:RV} {L:List QA} {W:List (rA × rA)} {N0 k n3 n5:Nat} {V0:AV} {e:RB} {R3:List rA} {t:QA} {w:rA × rA}
include r L W N0 k n3 n5 V0 e R3 t w
theorem ch6 (he:e.kind=6) (ha:GB e.kind t.kind=true) (hL:L[k]?=some t) (hW:W[k]?=some w) (asc:eP t) (l1:t.mems.length<=800) (l2:t.syms.length<=800) (s0 s:pA) (h:zW L W N0 k n3 n5 V0 e R3 s0 s) (K:Ex->pA->Option RV)
  (af:∀ s',(mA t e).1=0->iE L W N0 k V0 t e s0 s'->K .nrm s'=some r) (ze:∀ s',(mA t e).1=0->(s'.env 4).v=.int .i64 0->iE L W N0 k V0 t e s0 s'->K .ret s'=some r) (bh:∀ s',¬ (mA t e).1=0->(s'.env 4).v=.int .i64 (mA t e).1->fN N0 s0 s'->K .ret s'=some r):uI.run (rD sB BA) (IF sB BA) s K=some r:=by
 rw [he] at ha;obtain ⟨env,mem,nx,obj,gh⟩:=s;obtain ⟨e3,e5,m3,m5,⟨d0,d1,d2,d3,d4,d17,d18,d19,d20,d21,d22,d23,d24,dm,ds⟩,hT,hK⟩:=h;dsimp only at e3 e5 m3 m5 hT hK;rw [he] at d0;have dn:L≠[]:=fun e=>by rw [e] at hL; cases hL
 obtain ⟨-,py,h9,xw⟩:=hT.v0.resolve_left fun h=>dn h.1
 obtain ⟨c5,c6⟩:=hT.cell k t w hL hW;have mo:uA false 1 (k * 10 + 1) (OA (L) W) (.str e.name) .no=some (OA (L.set k { t with name:=e.name }) W):=by
  have:=iD (t':={ t with name:=e.name }) (w':=w) hL hW (j:=1) (x:=(.str e.name)) (a:=.no) (by omega) rfl rfl;rw [qF hW] at this;exact this
 have ac:mA t e=(0,{ t with name:=e.name }):=by simp [mA,he,ha] <;> rfl
 have mI:∀ (oa:Nat->Nat->Option (List rA)) (env':Nat->rA) (nx':Nat) (nb:Nat->Nat->Option AV),nx<=nx'->oa 9 N0=some (OA (L.set k { t with name:=e.name }) W)->(∀ tn nn,¬ (tn=9/\nn=N0)->oa tn nn=mem tn nn)->iE L W N0 k V0 t e s0 ⟨env',oa,nx',nb,gh⟩:=fun oa env' nx' nb hx sk hm=>by
  have ue:∀ tn nn,tn∈KS->oa tn nn=mem tn nn:=fun tn nn ht=>hm tn nn (fun e=>absurd (e.1 ▸ ht) (by decide))
  refine ⟨w,?_,⟨hK.gh,fun tn nn r' hl hk za he hr=>(hm tn nn za).trans (hK.mem tn nn r' hl hk za he hr),yB hK.next hx⟩⟩;rw [ac];exact hT.upd hL hW hx (by rw [qF hW]; exact sk) (fun tn nn l ht _ _ _ hr=>(ue tn nn ht).trans hr) ⟨c5.up (fun tn nn ht _=>ue tn nn ht) hx,c6.up (fun tn nn ht _=>ue tn nn ht) hx⟩ (KJ hT.nd w (yD hW)) (fun p hp=>.inl hp)
 generalize cn:OA L W=R0 at *
 generalize mz:OA (L.set k { t with name:=e.name }) W=R1 at *
 simp [uI,-J,-y6,-y5,y0,-aA,-uA,wA,tA,eA,qA,wA,e3,e5,m3,m5,h9,d0,d3,mo];exact af _ (by rw [ac]) (mI _ _ _ _ (by omega) (by simp [kA]) (fun tn nn za=>by simp [kA,za]))
theorem ch7 (he:e.kind=7) (ha:GB e.kind t.kind=true) (hL:L[k]?=some t) (hW:W[k]?=some w) (asc:eP t) (l1:t.mems.length<=800) (l2:t.syms.length<=800) (s0 s:pA) (h:zW L W N0 k n3 n5 V0 e R3 s0 s) (K:Ex->pA->Option RV)
  (af:∀ s',(mA t e).1=0->iE L W N0 k V0 t e s0 s'->K .nrm s'=some r) (ze:∀ s',(mA t e).1=0->(s'.env 4).v=.int .i64 0->iE L W N0 k V0 t e s0 s'->K .ret s'=some r) (bh:∀ s',¬ (mA t e).1=0->(s'.env 4).v=.int .i64 (mA t e).1->fN N0 s0 s'->K .ret s'=some r):uI.run (rD sB BA) (IF sB BA) s K=some r:=by
 rw [he] at ha;obtain ⟨env,mem,nx,obj,gh⟩:=s;obtain ⟨e3,e5,m3,m5,⟨d0,d1,d2,d3,d4,d17,d18,d19,d20,d21,d22,d23,d24,dm,ds⟩,hT,hK⟩:=h;dsimp only at e3 e5 m3 m5 hT hK;rw [he] at d0;have dn:L≠[]:=fun e=>by rw [e] at hL; cases hL
 obtain ⟨-,py,h9,xw⟩:=hT.v0.resolve_left fun h=>dn h.1
 obtain ⟨c5,c6⟩:=hT.cell k t w hL hW;have r0:=ND hL hW (j:=0) (by omega);simp only [OB,Y01,yJ] at r0;by_cases k2:t.kind=2
 ·rw [k2] at r0;have mo:uA false 1 (k * 10 + 2) (OA (L) W) (.int .i64 e.low) .no=some (OA (L.set k { t with low:=e.low }) W):=by
   have:=iD (t':={ t with low:=e.low }) (w':=w) hL hW (j:=2) (x:=(.int .i64 e.low)) (a:=.no) (by omega) rfl rfl;rw [qF hW] at this;exact this
  have hL0:(L.set k { t with low:=e.low })[k]?=some { t with low:=e.low }:=List.getElem?_set_self (yh.1 hL).1;have pf:uA false 1 (k * 10 + 3) (OA (L.set k { t with low:=e.low }) W) (.int .i64 e.high) .no=some (OA (L.set k { { t with low:=e.low } with high:=e.high }) W):=by
   have:=iD (t':={ { t with low:=e.low } with high:=e.high }) (w':=w) hL0 hW (j:=3) (x:=(.int .i64 e.high)) (a:=.no) (by omega) rfl rfl;rw [qF hW,List.set_set] at this;exact this
  have ac:mA t e=(0,{ { t with low:=e.low } with high:=e.high }):=by simp [mA,he,ha,k2] <;> rfl
  have mI:∀ (oa:Nat->Nat->Option (List rA)) (env':Nat->rA) (nx':Nat) (nb:Nat->Nat->Option AV),nx<=nx'->oa 9 N0=some (OA (L.set k { { t with low:=e.low } with high:=e.high }) W)->(∀ tn nn,¬ (tn=9/\nn=N0)->oa tn nn=mem tn nn)->iE L W N0 k V0 t e s0 ⟨env',oa,nx',nb,gh⟩:=fun oa env' nx' nb hx sk hm=>by
   have ue:∀ tn nn,tn∈KS->oa tn nn=mem tn nn:=fun tn nn ht=>hm tn nn (fun e=>absurd (e.1 ▸ ht) (by decide))
   refine ⟨w,?_,⟨hK.gh,fun tn nn r' hl hk za he hr=>(hm tn nn za).trans (hK.mem tn nn r' hl hk za he hr),yB hK.next hx⟩⟩;rw [ac];exact hT.upd hL hW hx (by rw [qF hW]; exact sk) (fun tn nn l ht _ _ _ hr=>(ue tn nn ht).trans hr) ⟨c5.up (fun tn nn ht _=>ue tn nn ht) hx,c6.up (fun tn nn ht _=>ue tn nn ht) hx⟩ (KJ hT.nd w (yD hW)) (fun p hp=>.inl hp)
  generalize cn:OA L W=R0 at *
  generalize mz:OA (L.set k { t with low:=e.low }) W=R1 at *
  generalize hR2:OA (L.set k { { t with low:=e.low } with high:=e.high }) W=R2 at *
  simp [uI,-J,-y6,-y5,y0,-aA,-uA,wA,tA,eA,qA,wA,e3,e5,m3,m5,h9,d0,r0,d19,d20,mo,pf];exact af _ (by rw [ac]) (mI _ _ _ _ (by omega) (by simp [kA]) (fun tn nn za=>by simp [kA,za]))
 ·skip
  have mo:uA false 1 (k * 10 + 4) (OA (L) W) (.int .i64 e.max) .no=some (OA (L.set k { t with max:=e.max }) W):=by
   have:=iD (t':={ t with max:=e.max }) (w':=w) hL hW (j:=4) (x:=(.int .i64 e.max)) (a:=.no) (by omega) rfl rfl;rw [qF hW] at this;exact this
  have ac:mA t e=(0,{ t with max:=e.max }):=by simp [mA,he,ha,k2] <;> rfl
  have mI:∀ (oa:Nat->Nat->Option (List rA)) (env':Nat->rA) (nx':Nat) (nb:Nat->Nat->Option AV),nx<=nx'->oa 9 N0=some (OA (L.set k { t with max:=e.max }) W)->(∀ tn nn,¬ (tn=9/\nn=N0)->oa tn nn=mem tn nn)->iE L W N0 k V0 t e s0 ⟨env',oa,nx',nb,gh⟩:=fun oa env' nx' nb hx sk hm=>by
   have ue:∀ tn nn,tn∈KS->oa tn nn=mem tn nn:=fun tn nn ht=>hm tn nn (fun e=>absurd (e.1 ▸ ht) (by decide))
   refine ⟨w,?_,⟨hK.gh,fun tn nn r' hl hk za he hr=>(hm tn nn za).trans (hK.mem tn nn r' hl hk za he hr),yB hK.next hx⟩⟩;rw [ac];exact hT.upd hL hW hx (by rw [qF hW]; exact sk) (fun tn nn l ht _ _ _ hr=>(ue tn nn ht).trans hr) ⟨c5.up (fun tn nn ht _=>ue tn nn ht) hx,c6.up (fun tn nn ht _=>ue tn nn ht) hx⟩ (KJ hT.nd w (yD hW)) (fun p hp=>.inl hp)
  generalize cn:OA L W=R0 at *
  generalize mz:OA (L.set k { t with max:=e.max }) W=R1 at *
  simp [uI,-J,-y6,-y5,y0,-aA,-uA,wA,tA,eA,qA,wA,e3,e5,m3,m5,h9,d0,r0,k2,d21,mo];exact af _ (by rw [ac]) (mI _ _ _ _ (by omega) (by simp [kA]) (fun tn nn za=>by simp [kA,za]))
theorem ch8 (he:e.kind=8) (ha:GB e.kind t.kind=true) (hL:L[k]?=some t) (hW:W[k]?=some w) (asc:eP t) (l1:t.mems.length<=800) (l2:t.syms.length<=800) (s0 s:pA) (h:zW L W N0 k n3 n5 V0 e R3 s0 s) (K:Ex->pA->Option RV)
  (af:∀ s',(mA t e).1=0->iE L W N0 k V0 t e s0 s'->K .nrm s'=some r) (ze:∀ s',(mA t e).1=0->(s'.env 4).v=.int .i64 0->iE L W N0 k V0 t e s0 s'->K .ret s'=some r) (bh:∀ s',¬ (mA t e).1=0->(s'.env 4).v=.int .i64 (mA t e).1->fN N0 s0 s'->K .ret s'=some r):uI.run (rD sB BA) (IF sB BA) s K=some r:=by
 rw [he] at ha;obtain ⟨env,mem,nx,obj,gh⟩:=s;obtain ⟨e3,e5,m3,m5,⟨d0,d1,d2,d3,d4,d17,d18,d19,d20,d21,d22,d23,d24,dm,ds⟩,hT,hK⟩:=h;dsimp only at e3 e5 m3 m5 hT hK;rw [he] at d0;have dn:L≠[]:=fun e=>by rw [e] at hL; cases hL
 obtain ⟨-,py,h9,xw⟩:=hT.v0.resolve_left fun h=>dn h.1
 obtain ⟨c5,c6⟩:=hT.cell k t w hL hW;have mo:uA false 1 (k * 10 + 9) (OA (L) W) (.bool e.opn) .no=some (OA (L.set k { t with opn:=e.opn }) W):=by
  have:=iD (t':={ t with opn:=e.opn }) (w':=w) hL hW (j:=9) (x:=(.bool e.opn)) (a:=.no) (by omega) rfl rfl;rw [qF hW] at this;exact this
 have ac:mA t e=(0,{ t with opn:=e.opn }):=by simp [mA,he,ha] <;> rfl
 have mI:∀ (oa:Nat->Nat->Option (List rA)) (env':Nat->rA) (nx':Nat) (nb:Nat->Nat->Option AV),nx<=nx'->oa 9 N0=some (OA (L.set k { t with opn:=e.opn }) W)->(∀ tn nn,¬ (tn=9/\nn=N0)->oa tn nn=mem tn nn)->iE L W N0 k V0 t e s0 ⟨env',oa,nx',nb,gh⟩:=fun oa env' nx' nb hx sk hm=>by
  have ue:∀ tn nn,tn∈KS->oa tn nn=mem tn nn:=fun tn nn ht=>hm tn nn (fun e=>absurd (e.1 ▸ ht) (by decide))
  refine ⟨w,?_,⟨hK.gh,fun tn nn r' hl hk za he hr=>(hm tn nn za).trans (hK.mem tn nn r' hl hk za he hr),yB hK.next hx⟩⟩;rw [ac];exact hT.upd hL hW hx (by rw [qF hW]; exact sk) (fun tn nn l ht _ _ _ hr=>(ue tn nn ht).trans hr) ⟨c5.up (fun tn nn ht _=>ue tn nn ht) hx,c6.up (fun tn nn ht _=>ue tn nn ht) hx⟩ (KJ hT.nd w (yD hW)) (fun p hp=>.inl hp)
 generalize cn:OA L W=R0 at *
 generalize mz:OA (L.set k { t with opn:=e.opn }) W=R1 at *
 simp [uI,-J,-y6,-y5,y0,-aA,-uA,wA,tA,eA,qA,wA,e3,e5,m3,m5,h9,d0,d22,mo];exact af _ (by rw [ac]) (mI _ _ _ _ (by omega) (by simp [kA]) (fun tn nn za=>by simp [kA,za]))
theorem ch9 (he:e.kind=9) (ha:GB e.kind t.kind=true) (hL:L[k]?=some t) (hW:W[k]?=some w) (asc:eP t) (l1:t.mems.length<=800) (l2:t.syms.length<=800) (s0 s:pA) (h:zW L W N0 k n3 n5 V0 e R3 s0 s) (K:Ex->pA->Option RV)
  (af:∀ s',(mA t e).1=0->iE L W N0 k V0 t e s0 s'->K .nrm s'=some r) (ze:∀ s',(mA t e).1=0->(s'.env 4).v=.int .i64 0->iE L W N0 k V0 t e s0 s'->K .ret s'=some r) (bh:∀ s',¬ (mA t e).1=0->(s'.env 4).v=.int .i64 (mA t e).1->fN N0 s0 s'->K .ret s'=some r):uI.run (rD sB BA) (IF sB BA) s K=some r:=by
 rw [he] at ha;obtain ⟨env,mem,nx,obj,gh⟩:=s;obtain ⟨e3,e5,m3,m5,⟨d0,d1,d2,d3,d4,d17,d18,d19,d20,d21,d22,d23,d24,dm,ds⟩,hT,hK⟩:=h;dsimp only at e3 e5 m3 m5 hT hK;rw [he] at d0;have dn:L≠[]:=fun e=>by rw [e] at hL; cases hL
 obtain ⟨-,py,h9,xw⟩:=hT.v0.resolve_left fun h=>dn h.1
 obtain ⟨c5,c6⟩:=hT.cell k t w hL hW;have r0:=ND hL hW (j:=0) (by omega);simp only [OB,Y01,yJ] at r0;have r0':(OA (L.set k { t with elem:=e.elem }) W)[k * 10]?=some ⟨.int .i64 t.kind,.no⟩:=by
  have:=ND (L:=L.set k { t with elem:=e.elem }) (List.getElem?_set_self (yh.1 hL).1) hW (j:=0) (by omega);simp only [OB,Y01,yJ] at this;exact this
 by_cases k8:t.kind=8
 ·replace r0':(OA (L.set k { t with elem:=e.elem }) W)[k * 10]?=some ⟨.int .i64 8,.no⟩:=by rw [r0',k8]
  have mo:uA false 1 (k * 10 + 8) (OA (L) W) (.int .i64 e.elem) .no=some (OA (L.set k { t with elem:=e.elem }) W):=by
   have:=iD (t':={ t with elem:=e.elem }) (w':=w) hL hW (j:=8) (x:=(.int .i64 e.elem)) (a:=.no) (by omega) rfl rfl;rw [qF hW] at this;exact this
  have hL0:(L.set k { t with elem:=e.elem })[k]?=some { t with elem:=e.elem }:=List.getElem?_set_self (yh.1 hL).1;have pf:uA false 1 (k * 10 + 7) (OA (L.set k { t with elem:=e.elem }) W) (.int .i64 e.key) .no=some (OA (L.set k { { t with elem:=e.elem } with key:=e.key }) W):=by
   have:=iD (t':={ { t with elem:=e.elem } with key:=e.key }) (w':=w) hL0 hW (j:=7) (x:=(.int .i64 e.key)) (a:=.no) (by omega) rfl rfl;rw [qF hW,List.set_set] at this;exact this
  have ac:mA t e=(0,{ { t with elem:=e.elem } with key:=e.key }):=by simp [mA,he,ha,k8] <;> rfl
  have mI:∀ (oa:Nat->Nat->Option (List rA)) (env':Nat->rA) (nx':Nat) (nb:Nat->Nat->Option AV),nx<=nx'->oa 9 N0=some (OA (L.set k { { t with elem:=e.elem } with key:=e.key }) W)->(∀ tn nn,¬ (tn=9/\nn=N0)->oa tn nn=mem tn nn)->iE L W N0 k V0 t e s0 ⟨env',oa,nx',nb,gh⟩:=fun oa env' nx' nb hx sk hm=>by
   have ue:∀ tn nn,tn∈KS->oa tn nn=mem tn nn:=fun tn nn ht=>hm tn nn (fun e=>absurd (e.1 ▸ ht) (by decide))
   refine ⟨w,?_,⟨hK.gh,fun tn nn r' hl hk za he hr=>(hm tn nn za).trans (hK.mem tn nn r' hl hk za he hr),yB hK.next hx⟩⟩;rw [ac];exact hT.upd hL hW hx (by rw [qF hW]; exact sk) (fun tn nn l ht _ _ _ hr=>(ue tn nn ht).trans hr) ⟨c5.up (fun tn nn ht _=>ue tn nn ht) hx,c6.up (fun tn nn ht _=>ue tn nn ht) hx⟩ (KJ hT.nd w (yD hW)) (fun p hp=>.inl hp)
  generalize cn:OA L W=R0 at *
  generalize mz:OA (L.set k { t with elem:=e.elem }) W=R1 at *
  generalize hR2:OA (L.set k { { t with elem:=e.elem } with key:=e.key }) W=R2 at *
  simp [uI,-J,-y6,-y5,y0,-aA,-uA,wA,tA,eA,qA,wA,e3,e5,m3,m5,h9,d0,r0',d23,d24,mo,pf];exact af _ (by rw [ac]) (mI _ _ _ _ (by omega) (by simp [kA]) (fun tn nn za=>by simp [kA,za]))
 ·skip
  have mo:uA false 1 (k * 10 + 8) (OA (L) W) (.int .i64 e.elem) .no=some (OA (L.set k { t with elem:=e.elem }) W):=by
   have:=iD (t':={ t with elem:=e.elem }) (w':=w) hL hW (j:=8) (x:=(.int .i64 e.elem)) (a:=.no) (by omega) rfl rfl;rw [qF hW] at this;exact this
  have ac:mA t e=(0,{ t with elem:=e.elem }):=by simp [mA,he,ha,k8] <;> rfl
  have mI:∀ (oa:Nat->Nat->Option (List rA)) (env':Nat->rA) (nx':Nat) (nb:Nat->Nat->Option AV),nx<=nx'->oa 9 N0=some (OA (L.set k { t with elem:=e.elem }) W)->(∀ tn nn,¬ (tn=9/\nn=N0)->oa tn nn=mem tn nn)->iE L W N0 k V0 t e s0 ⟨env',oa,nx',nb,gh⟩:=fun oa env' nx' nb hx sk hm=>by
   have ue:∀ tn nn,tn∈KS->oa tn nn=mem tn nn:=fun tn nn ht=>hm tn nn (fun e=>absurd (e.1 ▸ ht) (by decide))
   refine ⟨w,?_,⟨hK.gh,fun tn nn r' hl hk za he hr=>(hm tn nn za).trans (hK.mem tn nn r' hl hk za he hr),yB hK.next hx⟩⟩;rw [ac];exact hT.upd hL hW hx (by rw [qF hW]; exact sk) (fun tn nn l ht _ _ _ hr=>(ue tn nn ht).trans hr) ⟨c5.up (fun tn nn ht _=>ue tn nn ht) hx,c6.up (fun tn nn ht _=>ue tn nn ht) hx⟩ (KJ hT.nd w (yD hW)) (fun p hp=>.inl hp)
  generalize cn:OA L W=R0 at *
  generalize mz:OA (L.set k { t with elem:=e.elem }) W=R1 at *
  simp [uI,-J,-y6,-y5,y0,-aA,-uA,wA,tA,eA,qA,wA,e3,e5,m3,m5,h9,d0,r0',k8,d24,mo];exact af _ (by rw [ac]) (mI _ _ _ _ (by omega) (by simp [kA]) (fun tn nn za=>by simp [kA,za]))
end
section
variable {N0:Nat} {s0:pA} {env:Nat->rA} {mem:Nat->Nat->Option (List rA)} {nx nx':Nat} {obj:Nat->Nat->Option AV} {gh:Nat->rA} (h:fN N0 s0 ⟨env,mem,nx,obj,gh⟩)
include N0 s0 env mem nx nx' obj gh h
theorem fN.fresh {row N:Nat} {r R:List rA} (h1:row∈KS) (hx:nx<=nx') {env':Nat->rA} {nb:Nat->Nat->Option AV}:fN N0 s0 ⟨env',CO (CO mem row N r) 9 N0 R,nx',nb,gh⟩ :=
 have q:=(h.set (env':=env) (n:=N) (r:=r) (.inr (.inl h1)) (yf _)).set (env':=env') (r:=R) (.inr (.inr ⟨rfl,rfl⟩)) hx
 ⟨q.gh,q.mem,q.next⟩
theorem fN.swap {row N tm nm:Nat} {r R:List rA} (h0:tm∈KS) (h1:row∈KS) (hx:nx<=nx') {env':Nat->rA} {nb:Nat->Nat->Option AV}:fN N0 s0 ⟨env',CO (CO (RY tm nm mem) row N r) 9 N0 R,nx',nb,WY tm nm gh⟩ :=
 have q:=((h.kill (env':=env) (n:=nm) h0 (yf _)).set (env':=env) (n:=N) (r:=r) (.inr (.inl h1)) (yf _)).set (env':=env') (r:=R) (.inr (.inr ⟨rfl,rfl⟩)) hx
 ⟨q.gh,q.mem,q.next⟩
end
theorem eM {l:List (List AV)} (h:jD l=true) {t n:Nat}:(xA l).map (rA.kill t n)=xA l:=by
 unfold xA;rw [y5];refine yH fun v hv=>?_
 obtain ⟨c,hc,hvc⟩:=List.mem_flatten.1 hv;have hf:v.free0=true:=y8.1 (y8.1 h c hc) v hvc;cases v <;> first | rfl | (simp [AV.free0] at hf)
section
variable {r:RV} {L:List QA} {W:List (rA × rA)} {N0 k n3 n5:Nat} {V0:AV} {e:RB} {R3:List rA} {t:QA} {w:rA × rA}
include r L W N0 k n3 n5 V0 e R3 t w
theorem ch1 (he:e.kind=1) (ha:GB e.kind t.kind=true) (hL:L[k]?=some t) (hW:W[k]?=some w) (asc:eP t) (l1:t.mems.length<=800) (l2:t.syms.length<=800) (s0 s:pA) (h:zW L W N0 k n3 n5 V0 e R3 s0 s) (K:Ex->pA->Option RV)
  (af:∀ s',(mA t e).1=0->iE L W N0 k V0 t e s0 s'->K .nrm s'=some r) (ze:∀ s',(mA t e).1=0->(s'.env 4).v=.int .i64 0->iE L W N0 k V0 t e s0 s'->K .ret s'=some r) (bh:∀ s',¬ (mA t e).1=0->(s'.env 4).v=.int .i64 (mA t e).1->fN N0 s0 s'->K .ret s'=some r):uI.run (rD sB BA) (IF sB BA) s K=some r:=by
 rw [he] at ha;obtain ⟨env,mem,nx,obj,gh⟩:=s;obtain ⟨e3,e5,m3,m5,⟨d0,d1,d2,d3,d4,d17,d18,d19,d20,d21,d22,d23,d24,dm,ds⟩,hT,hK⟩:=h;dsimp only at e3 e5 m3 m5 hT hK;rw [he] at d0;have dn:L≠[]:=fun e=>by rw [e] at hL; cases hL
 obtain ⟨-,py,h9,xw⟩:=hT.v0.resolve_left fun h=>dn h.1
 obtain ⟨c5,c6⟩:=hT.cell k t w hL hW;obtain ⟨b5,t5,n5',-,-,-,f5⟩:=c5.frz (pD _) (LD _);obtain ⟨b6,t6,n6',-,-,-,f6⟩:=c6.frz (AC _) (KD _);have fj:∀ env nx obj gh,AV.frz0 ⟨env,mem,nx,obj,gh⟩ w.1.v=.sl b5 (t.syms.map jA):=fun _ _ _ _=>f5 _ (fun _ _=>rfl)
 have dj:∀ env nx obj gh,AV.frz0 ⟨env,mem,nx,obj,gh⟩ w.2.v=.sl b6 (t.mems.map fA):=fun _ _ _ _=>f6 _ (fun _ _=>rfl)
 have ud:=LE (uQ ⟨t.kind,t.name,t.low,t.high,t.max,b5,t.syms,b6,t.mems,t.key,t.elem,t.opn⟩ e.mem.id (by dsimp only; omega));simp only [pQ,iA] at ud;have rl:=bL hL hW;simp only [OB,yk,yR] at rl;have rj:=ND hL hW (j:=6) (by omega);simp only [OB,yZ,Y01] at rj;have sf:∀ {t:Nat},t∈KS->¬ t=3/\¬ t=5/\¬ t=9/\¬ t=0:=fun {t} ht=>by
  refine ⟨?_,?_,?_,?_⟩ <;> (intro e; subst e; exact absurd ht (by decide))
 have wd:=KJ hT.nd w (yD hW);by_cases hh:MK t.mems e.mem.id=true
 ·obtain ⟨i,x,ux,_,_⟩:=T4 hh;rw [ux] at ud;have ac:mA t e=(5,t):=by simp [mA,he,ha,hh]
  rw [ac] at bh;have pb:(0:Int)<=i:=by omega
  generalize cn:OA L W=R0 at *
  simp [uI,-J,-y6,-y5,y0,-aA,-uA,wA,tA,eA,qA,AV.plain,AV.scal,wA,e3,e5,m3,m5,h9,d0,d4,rl,↓fj,↓dj,ud,pb,-y8];exact bh _ (by simp) (by simp) (hK.env (by omega))
 ·skip
  have jo:=R4 hh;rw [jo] at ud;obtain ⟨ms,tl⟩:∃ ms,ms=CE fB.id e.mem t.mems:=⟨_,rfl⟩;have cm:mA t e=(0,{ t with mems:=ms }):=by simp [mA,he,ha,hh,tl] 
  have ph:AA 13 (ms.map fA)=true:=AC ms;have um:((ms.map fA).all fun c=>c.all AV.free0)=true:=KD ms;have ci:(ms.map fA).length=ms.length:=y7 _
  -- what the end is like
  have mI:∀ (X:rA) (N:Nat) (oa:Nat->Nat->Option (List rA)) (nx':Nat),nx<=N->N<nx'->X=⟨.ref 68 N 13 0 ms.length ms.length,.no⟩->oa 9 N0=some (OA (L.set k { t with mems:=ms }) (W.set k (w.1,X)))->oa 68 N=some (xA (ms.map fA))->(∀ tn nn l,tn∈KS->nn<nx->(tn,nn) ∉ LJ w.2->jD l=true->mem tn nn=some (xA l)->oa tn nn=some (xA l))->∀ s':pA,s'.mem=oa->s'.next=nx'->fN N0 s0 s'->iE L W N0 k V0 t e s0 s':=fun X N oa nx' hN kz hX sk hr hm s' lg gr nj=>by
   subst lg;subst gr;refine ⟨(w.1,X),?_,nj⟩;rw [cm];have nc:∀ p∈LJ w.1,p ∉ LJ w.2:=fun p hp hq=>by
    unfold AI at wd;obtain ⟨_,_,h3⟩:=yN.1 wd;exact h3 p hp p hq rfl
   have zt:LJ X=[(68,N)]:=by rw [hX]; rfl
   refine hT.upd hL hW (by omega) sk (fun tn nn l ht zg zc se ja=>hm tn nn l ht zg (fun h=>zc (yq.2 (.inr h))) se ja) ⟨?_,?_⟩ ?_ (fun p hp=>?_)
   ·exact c5.up' (LD _) (fun tn nn l ht hn se ja=>hm tn nn l ht (c5.nm _ hn).2 (nc _ hn) se ja) (by omega)
   ·exact .inr ⟨68,N,by rw [hX,y7],by decide,kz,hr⟩
   ·unfold AI at wd ⊢;obtain ⟨g1,g2,_⟩:=yN.1 wd;dsimp only;rw [zt];refine yN.2 ⟨g1,by simp,fun p hp q hq e=>?_⟩;subst e;have h1:=(c5.nm p hp).2;simp only [Y03] at hq;rw [hq] at h1;dsimp only at h1;omega
   ·unfold AI at hp ⊢;dsimp only at hp;rw [zt] at hp;rcases yq.1 hp with hp | hp
    ·exact .inl (yq.2 (.inl hp))
    ·simp only [Y03] at hp;rw [hp];exact .inr hN
  have ik:=dX (f:=fB.id) e.mem.id t.mems;have aq:∀ b:Bool,(b=true->t.mems=[])->rD sB BA 68 [.undef,.sl b (t.mems.map fA),.int .i64 (dH fB.id e.mem.id t.mems:Nat),.sl false [fA e.mem]] (some (.int .i64 13))=some (.sl false (ms.map fA),none):=fun b hb=>by
   have:=ins_m (b:=b) (x:=e.mem) ik (by omega) hb;rw [tl,WP];exact this
  have pq:(fA e.mem).length=13:=rfl;have hxf:(fA e.mem).all AV.free0=true:=rfl;obtain ⟨P,hP⟩:∃ P:Int,P=(dH fB.id e.mem.id t.mems:Nat):=⟨_,rfl⟩;rw [<- hP] at aq;have wj:=fun (n:Int) (a0 a1:An) (hn:n=t.mems.length) (s:pA) (h:Plm k N0 n3 n5 e.mem.id t.mems s) (KK:rA->pA->Option RV) (hk:∀ s' a,MN s s'->KK ⟨.int .i64 P,a⟩ s'=some r)=>plm_h (a0:=a0) (a1:=a1) hn (by omega) s h KK (by rw [<- hP]; exact hk)
  rcases c6 with ⟨h0,b,sd⟩ | ⟨tm,nm,sd,gl,gd,mm⟩
  ·have az:t.mems=[]:=List.map_eq_nil_iff.1 h0;have ui:=aq b (fun _=>az);rw [h0] at ui;have nq:∀ N,uA false 1 (k * 10 + 6) (OA L W) (.ref 68 N 13 0 ms.length ms.length) .no=some (OA (L.set k { t with mems:=ms }) (W.set k (w.1,⟨.ref 68 N 13 0 ms.length ms.length,.no⟩))):=fun N=>iD hL hW (j:=6) (by omega) rfl (by rfl)
   rw [sd] at rj;rw [sd] at dj;dsimp only at dj;have lq:w.2.v=.sl b []:=by rw [sd]
   rw [lq] at rl;have lz:∀ env' nx' nb mg,Plm k N0 n3 n5 e.mem.id t.mems ⟨env',mem,nx',nb,mg⟩:=fun _ _ _ _=>⟨⟨_,m5⟩,⟨_,0,0,h9,fun h=>absurd az h⟩,⟨R3,m3,d4⟩⟩
   generalize fA e.mem=xc at *
   generalize sj:ms.map fA=mc at *
   generalize cn:OA L W=R0 at *
   simp [uI,-J,-y6,-y5,y0,-aA,-uA,wA,tA,eA,qA,AV.plain,AV.scal,wA,e3,e5,m3,m5,h9,d0,d4,dm,rl,↓fj,↓dj,ud,rj,-y8];refine wj 0 _ _ (by rw [az]; rfl) _ (lz _ _ _ _) _ (fun s' an hs=>?_);obtain ⟨env',oa,nx',nb,mg⟩:=s';obtain ⟨g1,g2,g3⟩:=hs;dsimp only at g1 g2 g3;subst g1;subst g2;simp [-J,-y6,-y5,y0,-aA,-uA,wA,tA,eA,qA,uX,wA,TG,e3,e5,m3,m5,h9,dm,rj,pq,hxf,ui,ph,um,ci,nq,-y8];refine af _ (by rw [cm]) ?_;refine mI _ (nx' + 1) _ _ (by omega) ?_ rfl ?_ ?_ (fun tn nn l ht zg _ _ ja=>?_) _ rfl rfl ?_
   ·dsimp only; omega
   ·simp [kA]
   ·simp [kA,sj]
   ·skip
    obtain ⟨q1,q2,q3,q4⟩:=sf ht;have e1:¬ nn=nx' + 1:=by omega
    simp [kA,q3,e1,ja]
   ·refine (hK.fresh (row:=68) (by decide) ?_);omega
  ·have ui:=aq false (fun h=>by cases h);have zf:(tm,nm)∈AI w:=by unfold AI; rw [sd]; simp [LJ]
   have uj:w.1.kill tm nm=w.1:=c5.kill fun hp=>by
    unfold AI at wd;obtain ⟨_,_,h3⟩:=yN.1 wd;have ji:(tm,nm)∈LJ w.2:=by rw [sd]; simp [LJ]
    exact h3 _ hp _ ji rfl
   have nq:∀ N,uA false 1 (k * 10 + 6) ((OA L W).map (rA.kill tm nm)) (.ref 68 N 13 0 ms.length ms.length) .no=some (OA (L.set k { t with mems:=ms }) (W.set k (w.1,⟨.ref 68 N 13 0 ms.length ms.length,.no⟩))):=fun N=>ZN hT hL hW zf (j:=6) (by omega) rfl (by simp only [killW,uj]; rfl)
   obtain ⟨q1,q2,q3,q4⟩:=sf gl;have uv:¬ 3=tm:=fun e=>q1 e.symm
   have wv:¬ 5=tm:=fun e=>q2 e.symm
   have xv:¬ 9=tm:=fun e=>q3 e.symm
   have xb:=LB (AC t.mems) (KD _);rw [y7] at xb sd;rw [sd] at rj;rw [sd] at dj;dsimp only at dj;have lq:w.2.v=.ref tm nm 13 0 t.mems.length t.mems.length:=by rw [sd]
   rw [lq] at rl;have lz:∀ env' nx' nb mg,Plm k N0 n3 n5 e.mem.id t.mems ⟨env',mem,nx',nb,mg⟩:=fun _ _ _ _=>⟨⟨_,m5⟩,⟨_,tm,nm,h9,fun _=>⟨rj,mm⟩⟩,⟨R3,m3,d4⟩⟩
   generalize fA e.mem=xc at *
   generalize sj:ms.map fA=mc at *
   generalize cn:OA L W=R0 at *
   simp [uI,-J,-y6,-y5,y0,-aA,-uA,wA,tA,eA,qA,AV.plain,AV.scal,wA,e3,e5,m3,m5,h9,d0,d4,dm,rl,↓fj,↓dj,ud,rj,-y8];refine wj _ _ _ rfl _ (lz _ _ _ _) _ (fun s' an hs=>?_);obtain ⟨env',oa,nx',nb,mg⟩:=s';obtain ⟨g1,g2,g3⟩:=hs;dsimp only at g1 g2 g3;subst g1;subst g2;generalize pe:xA (t.mems.map fA)=row0 at *
   generalize rd:t.mems.map fA=old at *
   simp [-J,-y6,-y5,y0,-aA,-uA,wA,tA,eA,qA,wA,TG,e3,e5,m3,m5,h9,mm,xb,dm,rj,q1,q2,q3,q4,uv,wv,xv,pq,hxf,ui,ph,um,ci,nq,-y8];refine af _ (by rw [cm]) ?_;refine mI _ (nx' + 1) _ _ (by omega) ?_ rfl ?_ ?_ (fun tn nn l ht zg zc se ja=>?_) _ rfl rfl ?_
   ·dsimp only; omega
   ·simp [kA]
   ·simp [kA,sj]
   ·skip
    obtain ⟨q5,q6,q7,q8⟩:=sf ht;have e1:¬ nn=nx' + 1:=by omega
    have e2:¬ (tn=tm/\nn=nm):=fun e=>zc (by rw [sd,e.1,e.2]; simp [LJ])
    simp [kA,OJ,q7,e1,e2,ja,eM se]
   ·refine (hK.swap (row:=68) gl (by decide) ?_);omega
theorem ch2 (he:e.kind=2) (ha:GB e.kind t.kind=true) (hL:L[k]?=some t) (hW:W[k]?=some w) (asc:eP t) (l1:t.mems.length<=800) (l2:t.syms.length<=800) (s0 s:pA) (h:zW L W N0 k n3 n5 V0 e R3 s0 s) (K:Ex->pA->Option RV)
  (af:∀ s',(mA t e).1=0->iE L W N0 k V0 t e s0 s'->K .nrm s'=some r) (ze:∀ s',(mA t e).1=0->(s'.env 4).v=.int .i64 0->iE L W N0 k V0 t e s0 s'->K .ret s'=some r) (bh:∀ s',¬ (mA t e).1=0->(s'.env 4).v=.int .i64 (mA t e).1->fN N0 s0 s'->K .ret s'=some r):uI.run (rD sB BA) (IF sB BA) s K=some r:=by
 rw [he] at ha;obtain ⟨env,mem,nx,obj,gh⟩:=s;obtain ⟨e3,e5,m3,m5,⟨d0,d1,d2,d3,d4,d17,d18,d19,d20,d21,d22,d23,d24,dm,ds⟩,hT,hK⟩:=h;dsimp only at e3 e5 m3 m5 hT hK;rw [he] at d0;have dn:L≠[]:=fun e=>by rw [e] at hL; cases hL
 obtain ⟨-,py,h9,xw⟩:=hT.v0.resolve_left fun h=>dn h.1
 obtain ⟨c5,c6⟩:=hT.cell k t w hL hW;obtain ⟨b5,t5,n5',-,-,-,f5⟩:=c5.frz (pD _) (LD _);obtain ⟨b6,t6,n6',-,-,-,f6⟩:=c6.frz (AC _) (KD _);have fj:∀ env nx obj gh,AV.frz0 ⟨env,mem,nx,obj,gh⟩ w.1.v=.sl b5 (t.syms.map jA):=fun _ _ _ _=>f5 _ (fun _ _=>rfl)
 have dj:∀ env nx obj gh,AV.frz0 ⟨env,mem,nx,obj,gh⟩ w.2.v=.sl b6 (t.mems.map fA):=fun _ _ _ _=>f6 _ (fun _ _=>rfl)
 have ud:=LE (uQ ⟨t.kind,t.name,t.low,t.high,t.max,b5,t.syms,b6,t.mems,t.key,t.elem,t.opn⟩ e.id (by dsimp only; omega));simp only [pQ,iA] at ud;have rl:=bL hL hW;simp only [OB,yk,yR] at rl;have rj:=ND hL hW (j:=6) (by omega);simp only [OB,yZ,Y01] at rj;have sf:∀ {t:Nat},t∈KS->¬ t=3/\¬ t=5/\¬ t=9/\¬ t=0:=fun {t} ht=>by
  refine ⟨?_,?_,?_,?_⟩ <;> (intro e; subst e; exact absurd ht (by decide))
 have wd:=KJ hT.nd w (yD hW);by_cases hh:MK t.mems e.id=true
 ·obtain ⟨i,x,ux,hi,gz⟩:=T4 hh;rw [ux] at ud;obtain ⟨ms,tl⟩:∃ ms,ms=t.mems.filter (fun m=>!decide (m.id=e.id)):=⟨_,rfl⟩;have cm:mA t e=(0,{ t with mems:=ms }):=by simp [mA,he,ha,hh,tl] 
  have ph:AA 13 (ms.map fA)=true:=AC ms;have um:((ms.map fA).all fun c=>c.all AV.free0)=true:=KD ms;have ci:(ms.map fA).length=ms.length:=y7 _
  -- what the end is like
  have mI:∀ (X:rA) (N:Nat) (oa:Nat->Nat->Option (List rA)) (nx':Nat),nx<=N->N<nx'->X=⟨.ref 89 N 13 0 ms.length ms.length,.no⟩->oa 9 N0=some (OA (L.set k { t with mems:=ms }) (W.set k (w.1,X)))->oa 89 N=some (xA (ms.map fA))->(∀ tn nn l,tn∈KS->nn<nx->(tn,nn) ∉ LJ w.2->jD l=true->mem tn nn=some (xA l)->oa tn nn=some (xA l))->∀ s':pA,s'.mem=oa->s'.next=nx'->fN N0 s0 s'->iE L W N0 k V0 t e s0 s':=fun X N oa nx' hN kz hX sk hr hm s' lg gr nj=>by
   subst lg;subst gr;refine ⟨(w.1,X),?_,nj⟩;rw [cm];have nc:∀ p∈LJ w.1,p ∉ LJ w.2:=fun p hp hq=>by
    unfold AI at wd;obtain ⟨_,_,h3⟩:=yN.1 wd;exact h3 p hp p hq rfl
   have zt:LJ X=[(89,N)]:=by rw [hX]; rfl
   refine hT.upd hL hW (by omega) sk (fun tn nn l ht zg zc se ja=>hm tn nn l ht zg (fun h=>zc (yq.2 (.inr h))) se ja) ⟨?_,?_⟩ ?_ (fun p hp=>?_)
   ·exact c5.up' (LD _) (fun tn nn l ht hn se ja=>hm tn nn l ht (c5.nm _ hn).2 (nc _ hn) se ja) (by omega)
   ·exact .inr ⟨89,N,by rw [hX,y7],by decide,kz,hr⟩
   ·unfold AI at wd ⊢;obtain ⟨g1,g2,_⟩:=yN.1 wd;dsimp only;rw [zt];refine yN.2 ⟨g1,by simp,fun p hp q hq e=>?_⟩;subst e;have h1:=(c5.nm p hp).2;simp only [Y03] at hq;rw [hq] at h1;dsimp only at h1;omega
   ·unfold AI at hp ⊢;dsimp only at hp;rw [zt] at hp;rcases yq.1 hp with hp | hp
    ·exact .inl (yq.2 (.inl hp))
    ·simp only [Y03] at hp;rw [hp];exact .inr hN
  have aj:=(yh.1 hi).1;have du:=del_m aj (by omega);have fi:t.mems.take i++t.mems.drop (i + 1)=ms:=by rw [tl,<- gz]; exact (sS asc.1 hi).1.symm
  rw [fi] at du;have hw:=eB (i:=i);rcases c6 with ⟨h0,b,sd⟩ | ⟨tm,nm,sd,gl,gd,mm⟩
  ·rw [List.map_eq_nil_iff.1 h0] at aj;exact absurd aj (Nat.not_lt_zero _)
  ·have zf:(tm,nm)∈AI w:=by unfold AI; rw [sd]; simp [LJ]
   have uj:w.1.kill tm nm=w.1:=c5.kill fun hp=>by
    unfold AI at wd;obtain ⟨_,_,h3⟩:=yN.1 wd;have ji:(tm,nm)∈LJ w.2:=by rw [sd]; simp [LJ]
    exact h3 _ hp _ ji rfl
   have nq:∀ N,uA false 1 (k * 10 + 6) ((OA L W).map (rA.kill tm nm)) (.ref 89 N 13 0 ms.length ms.length) .no=some (OA (L.set k { t with mems:=ms }) (W.set k (w.1,⟨.ref 89 N 13 0 ms.length ms.length,.no⟩))):=fun N=>ZN hT hL hW zf (j:=6) (by omega) rfl (by simp only [killW,uj]; rfl)
   obtain ⟨q1,q2,q3,q4⟩:=sf gl;have uv:¬ 3=tm:=fun e=>q1 e.symm
   have wv:¬ 5=tm:=fun e=>q2 e.symm
   have xv:¬ 9=tm:=fun e=>q3 e.symm
   have xb:=LB (AC t.mems) (KD _);rw [y7] at xb sd;rw [sd] at rj;rw [sd] at dj;dsimp only at dj;have lq:w.2.v=.ref tm nm 13 0 t.mems.length t.mems.length:=by rw [sd]
   rw [lq] at rl;have zg:¬ (i:Int)<0:=by omega
   generalize sj:ms.map fA=mc at *
   generalize cn:OA L W=R0 at *
   generalize pe:xA (t.mems.map fA)=row0 at *
   generalize rd:t.mems.map fA=old at *
   simp [uI,-J,-y6,-y5,y0,-aA,-uA,wA,tA,eA,qA,AV.plain,AV.scal,wA,e3,e5,m3,m5,h9,d0,d2,rl,↓fj,↓dj,ud,rj,zg,hw,mm,xb,q1,q2,q3,q4,uv,wv,xv,du,ph,um,ci,nq,-y8];refine af _ (by rw [cm]) ?_;refine mI _ (nx + 5) _ _ (by omega) ?_ rfl ?_ ?_ (fun tn nn l ht zg zc se ja=>?_) _ rfl rfl ?_
   ·dsimp only; omega
   ·simp [kA]
   ·simp [kA,sj]
   ·skip
    obtain ⟨q5,q6,q7,q8⟩:=sf ht;have e1:¬ nn=nx + 5:=by omega
    have e2:¬ (tn=tm/\nn=nm):=fun e=>zc (by rw [sd,e.1,e.2]; simp [LJ])
    simp [kA,OJ,q7,e1,e2,ja,eM se]
   ·refine (hK.swap (row:=89) gl (by decide) ?_);omega
 ·have jo:=R4 hh;rw [jo] at ud;have ac:mA t e=(4,t):=by simp [mA,he,ha,hh]
  rw [ac] at bh;generalize cn:OA L W=R0 at *
  simp [uI,-J,-y6,-y5,y0,-aA,-uA,wA,tA,eA,qA,AV.plain,AV.scal,wA,e3,e5,m3,m5,h9,d0,d2,rl,↓fj,↓dj,ud,-y8];exact bh _ (by simp) (by simp) (hK.env (by omega))
theorem ch3 (he:e.kind=3) (ha:GB e.kind t.kind=true) (hL:L[k]?=some t) (hW:W[k]?=some w) (asc:eP t) (l1:t.mems.length<=800) (l2:t.syms.length<=800) (s0 s:pA) (h:zW L W N0 k n3 n5 V0 e R3 s0 s) (K:Ex->pA->Option RV)
  (af:∀ s',(mA t e).1=0->iE L W N0 k V0 t e s0 s'->K .nrm s'=some r) (ze:∀ s',(mA t e).1=0->(s'.env 4).v=.int .i64 0->iE L W N0 k V0 t e s0 s'->K .ret s'=some r) (bh:∀ s',¬ (mA t e).1=0->(s'.env 4).v=.int .i64 (mA t e).1->fN N0 s0 s'->K .ret s'=some r):uI.run (rD sB BA) (IF sB BA) s K=some r:=by
 rw [he] at ha;obtain ⟨env,mem,nx,obj,gh⟩:=s;obtain ⟨e3,e5,m3,m5,⟨d0,d1,d2,d3,d4,d17,d18,d19,d20,d21,d22,d23,d24,dm,ds⟩,hT,hK⟩:=h;dsimp only at e3 e5 m3 m5 hT hK;rw [he] at d0;have dn:L≠[]:=fun e=>by rw [e] at hL; cases hL
 obtain ⟨-,py,h9,xw⟩:=hT.v0.resolve_left fun h=>dn h.1
 obtain ⟨c5,c6⟩:=hT.cell k t w hL hW;obtain ⟨b5,t5,n5',-,-,-,f5⟩:=c5.frz (pD _) (LD _);obtain ⟨b6,t6,n6',-,-,-,f6⟩:=c6.frz (AC _) (KD _);have fj:∀ env nx obj gh,AV.frz0 ⟨env,mem,nx,obj,gh⟩ w.1.v=.sl b5 (t.syms.map jA):=fun _ _ _ _=>f5 _ (fun _ _=>rfl)
 have dj:∀ env nx obj gh,AV.frz0 ⟨env,mem,nx,obj,gh⟩ w.2.v=.sl b6 (t.mems.map fA):=fun _ _ _ _=>f6 _ (fun _ _=>rfl)
 have ud:=LE (uQ ⟨t.kind,t.name,t.low,t.high,t.max,b5,t.syms,b6,t.mems,t.key,t.elem,t.opn⟩ e.mem.id (by dsimp only; omega));simp only [pQ,iA] at ud;have rl:=bL hL hW;simp only [OB,yk,yR] at rl;have rj:=ND hL hW (j:=6) (by omega);simp only [OB,yZ,Y01] at rj;have sf:∀ {t:Nat},t∈KS->¬ t=3/\¬ t=5/\¬ t=9/\¬ t=0:=fun {t} ht=>by
  refine ⟨?_,?_,?_,?_⟩ <;> (intro e; subst e; exact absurd ht (by decide))
 have wd:=KJ hT.nd w (yD hW);by_cases hh:MK t.mems e.mem.id=true
 ·obtain ⟨i,x,ux,hi,gz⟩:=T4 hh;rw [ux] at ud;have aj:=(yh.1 hi).1;rcases c6 with ⟨h0,b,sd⟩ | ⟨tm,nm,sd,gl,gd,mm⟩
  ·rw [List.map_eq_nil_iff.1 h0] at aj;exact absurd aj (Nat.not_lt_zero _)
  obtain ⟨ms,tl⟩:∃ ms,ms=t.mems.map fun m=>if m.id=e.mem.id then e.mem else m:=⟨_,rfl⟩
  have cm:mA t e=(0,{ t with mems:=ms }):=by simp [mA,he,ha,hh,tl]
  have hmse:t.mems.set i e.mem=ms:=by rw [tl,<- gz]; exact ((sS asc.1 hi).2 _).symm
  have ci:ms.length=t.mems.length:=by rw [tl,y7]
  rw [y7] at sd;have mI:∀ (oa:Nat->Nat->Option (List rA)) (nx':Nat),nx<=nx'->oa=CO mem tm nm (xA (ms.map fA))->∀ s':pA,s'.mem=oa->s'.next=nx'->fN N0 s0 s'->iE L W N0 k V0 t e s0 s':=fun oa nx' hx hm s' lg gr nj=>by
   subst hm;refine ⟨w,?_,nj⟩;rw [cm,lg,gr];obtain ⟨q1,q2,q3,q4⟩:=sf gl;have ji:(tm,nm)∈LJ w.2:=by rw [sd]; simp [LJ]
   have zf:(tm,nm)∈AI w:=yq.2 (.inr ji);have uj:(tm,nm) ∉ LJ w.1:=fun hp=>by
    unfold AI at wd;obtain ⟨_,_,h3⟩:=yN.1 wd;exact h3 _ hp _ ji rfl
   refine hT.upd hL hW hx ?_ (fun tn nn l ht zg zc se ja=>?_) ⟨?_,?_⟩ wd (fun p hp=>.inl hp)
   ·rw [FZ hL hW (by rfl),kA,if_neg (fun e=>q3 e.1.symm)];exact h9
   ·rw [kA,if_neg (fun e=>zc (by rw [e.1,e.2]; exact zf))];exact ja
   ·exact c5.up' (LD _) (fun tn nn l ht hn se ja=>by rw [kA,if_neg (fun e=>uj (by rw [<- e.1,<- e.2]; exact hn))]; exact ja) hx
   ·refine .inr ⟨tm,nm,?_,gl,by omega,by simp [kA]⟩;rw [sd,y7,ci]
  obtain ⟨q1,q2,q3,q4⟩:=sf gl;have uv:¬ 3=tm:=fun e=>q1 e.symm
  have wv:¬ 5=tm:=fun e=>q2 e.symm
  have xv:¬ 9=tm:=fun e=>q3 e.symm
  have xb:=LB (AC t.mems) (KD _);rw [y7] at xb;rw [sd] at rj;rw [sd] at dj;dsimp only at dj;have lq:w.2.v=.ref tm nm 13 0 t.mems.length t.mems.length:=by rw [sd]
  rw [lq] at rl;have zg:¬ (i:Int)<0:=by omega
  have pb:(0:Int)<=i:=by omega
  have g1:(t.mems.map fA)[i]?=some (fA x):=by rw [yc,hi]; rfl
  have ac:=xF (AC t.mems) (k:=i) (by rw [y7]; exact aj) (c:=fA e.mem) rfl .no;have wm:(t.mems.map fA).set i (fA e.mem)=ms.map fA:=by rw [<- hmse,List.map_set]
  rw [wm] at ac;have pq:(fA e.mem).length=13:=rfl;generalize fA e.mem=xc at *
  generalize cn:OA L W=R0 at *
  generalize pe:xA (t.mems.map fA)=row0 at *
  generalize hrow1:xA (ms.map fA)=row1 at *
  generalize rd:t.mems.map fA=old at *
  simp [uI,-J,-y6,-y5,y0,-aA,-uA,wA,tA,eA,qA,AV.plain,AV.scal,wA,e3,e5,m3,m5,h9,d0,d4,dm,pq,rl,↓fj,↓dj,ud,rj,zg,pb,aj,mm,xb,q1,q2,q3,q4,uv,wv,xv,ac,-y8];refine af _ (by rw [cm]) ?_;refine mI _ _ ?_ rfl _ rfl rfl ?_
  ·dsimp only; omega
  ·exact hK.set (.inr (.inl gl)) (by omega)
 ·have jo:=R4 hh;rw [jo] at ud;have ac:mA t e=(4,t):=by simp [mA,he,ha,hh]
  rw [ac] at bh;generalize cn:OA L W=R0 at *
  simp [uI,-J,-y6,-y5,y0,-aA,-uA,wA,tA,eA,qA,AV.plain,AV.scal,wA,e3,e5,m3,m5,h9,d0,d4,rl,↓fj,↓dj,ud,-y8];exact bh _ (by simp) (by simp) (hK.env (by omega))
end
section
variable {r:RV} {L:List QA} {W:List (rA × rA)} {N0 k n3 n5:Nat} {V0:AV} {e:RB} {R3:List rA} {t:QA} {w:rA × rA}
include r L W N0 k n3 n5 V0 e R3 t w
theorem ch4 (he:e.kind=4) (ha:GB e.kind t.kind=true) (hL:L[k]?=some t) (hW:W[k]?=some w) (asc:eP t) (l1:t.mems.length<=800) (l2:t.syms.length<=800) (s0 s:pA) (h:zW L W N0 k n3 n5 V0 e R3 s0 s) (K:Ex->pA->Option RV)
  (af:∀ s',(mA t e).1=0->iE L W N0 k V0 t e s0 s'->K .nrm s'=some r) (ze:∀ s',(mA t e).1=0->(s'.env 4).v=.int .i64 0->iE L W N0 k V0 t e s0 s'->K .ret s'=some r) (bh:∀ s',¬ (mA t e).1=0->(s'.env 4).v=.int .i64 (mA t e).1->fN N0 s0 s'->K .ret s'=some r):uI.run (rD sB BA) (IF sB BA) s K=some r:=by
 rw [he] at ha;obtain ⟨env,mem,nx,obj,gh⟩:=s;obtain ⟨e3,e5,m3,m5,⟨d0,d1,d2,d3,d4,d17,d18,d19,d20,d21,d22,d23,d24,dm,ds⟩,hT,hK⟩:=h;dsimp only at e3 e5 m3 m5 hT hK;rw [he] at d0;have dn:L≠[]:=fun e=>by rw [e] at hL; cases hL
 obtain ⟨-,py,h9,xw⟩:=hT.v0.resolve_left fun h=>dn h.1
 obtain ⟨c5,c6⟩:=hT.cell k t w hL hW;obtain ⟨b5,t5,n5',-,-,-,f5⟩:=c5.frz (pD _) (LD _);obtain ⟨b6,t6,n6',-,-,-,f6⟩:=c6.frz (AC _) (KD _);have fj:∀ env nx obj gh,AV.frz0 ⟨env,mem,nx,obj,gh⟩ w.1.v=.sl b5 (t.syms.map jA):=fun _ _ _ _=>f5 _ (fun _ _=>rfl)
 have dj:∀ env nx obj gh,AV.frz0 ⟨env,mem,nx,obj,gh⟩ w.2.v=.sl b6 (t.mems.map fA):=fun _ _ _ _=>f6 _ (fun _ _=>rfl)
 have ud:=LE (SS ⟨t.kind,t.name,t.low,t.high,t.max,b5,t.syms,b6,t.mems,t.key,t.elem,t.opn⟩ e.sym.id (by dsimp only; omega));simp only [pQ,iA] at ud;have rl:=bL hL hW;simp only [OB,yk,yR] at rl;have rj:=ND hL hW (j:=5) (by omega);simp only [OB,yZ,Y01] at rj;have sf:∀ {t:Nat},t∈KS->¬ t=3/\¬ t=5/\¬ t=9/\¬ t=0:=fun {t} ht=>by
  refine ⟨?_,?_,?_,?_⟩ <;> (intro e; subst e; exact absurd ht (by decide))
 have wd:=KJ hT.nd w (yD hW);by_cases hh:QP t.syms e.sym.id=true
 ·obtain ⟨i,x,ux,hi,gz⟩:=symIx_t hh;rw [ux] at ud;have aj:=(yh.1 hi).1;rcases c5 with ⟨h0,b,sd⟩ | ⟨tm,nm,sd,gl,gd,mm⟩
  ·rw [List.map_eq_nil_iff.1 h0] at aj;exact absurd aj (Nat.not_lt_zero _)
  obtain ⟨ms,tl⟩:∃ ms,ms=t.syms.map fun m=>if m.id=e.sym.id then e.sym else m:=⟨_,rfl⟩
  have cm:mA t e=(0,{ t with syms:=ms }):=by simp [mA,he,ha,hh,tl]
  have hmse:t.syms.set i e.sym=ms:=by rw [tl,<- gz]; exact ((sS asc.2 hi).2 _).symm
  have ci:ms.length=t.syms.length:=by rw [tl,y7]
  rw [y7] at sd;have mI:∀ (oa:Nat->Nat->Option (List rA)) (nx':Nat),nx<=nx'->oa=CO mem tm nm (xA (ms.map jA))->∀ s':pA,s'.mem=oa->s'.next=nx'->fN N0 s0 s'->iE L W N0 k V0 t e s0 s':=fun oa nx' hx hm s' lg gr nj=>by
   subst hm;refine ⟨w,?_,nj⟩;rw [cm,lg,gr];obtain ⟨q1,q2,q3,q4⟩:=sf gl;have ji:(tm,nm)∈LJ w.1:=by rw [sd]; simp [LJ]
   have zf:(tm,nm)∈AI w:=yq.2 (.inl ji);have uj:(tm,nm) ∉ LJ w.2:=fun hp=>by
    unfold AI at wd;obtain ⟨_,_,h3⟩:=yN.1 wd;exact h3 _ ji _ hp rfl
   refine hT.upd hL hW hx ?_ (fun tn nn l ht zg zc se ja=>?_) ⟨?_,?_⟩ wd (fun p hp=>.inl hp)
   ·rw [FZ hL hW (by rfl),kA,if_neg (fun e=>q3 e.1.symm)];exact h9
   ·rw [kA,if_neg (fun e=>zc (by rw [e.1,e.2]; exact zf))];exact ja
   ·refine .inr ⟨tm,nm,?_,gl,by omega,by simp [kA]⟩;rw [sd,y7,ci]
   ·exact c6.up' (KD _) (fun tn nn l ht hn se ja=>by rw [kA,if_neg (fun e=>uj (by rw [<- e.1,<- e.2]; exact hn))]; exact ja) hx
  obtain ⟨q1,q2,q3,q4⟩:=sf gl;have uv:¬ 3=tm:=fun e=>q1 e.symm
  have wv:¬ 5=tm:=fun e=>q2 e.symm
  have xv:¬ 9=tm:=fun e=>q3 e.symm
  have xb:=LB (pD t.syms) (LD _);rw [y7] at xb;rw [sd] at rj;rw [sd] at fj;dsimp only at fj;have lq:w.1.v=.ref tm nm 2 0 t.syms.length t.syms.length:=by rw [sd]
  rw [lq] at rl;have zg:¬ (i:Int)<0:=by omega
  have pb:(0:Int)<=i:=by omega
  have g1:(t.syms.map jA)[i]?=some (jA x):=by rw [yc,hi]; rfl
  have ac:=u5 (pD t.syms) g1 (j:=1) (x:=.str e.sym.name) (by omega) rfl;have wm:(t.syms.map jA).set i ((jA x).set 1 (.str e.sym.name))=ms.map jA:=by
   have:(jA x).set 1 (.str e.sym.name)=jA e.sym:=by simp [jA,gz]
   rw [this,<- hmse,List.map_set]
  rw [wm] at ac;generalize cn:OA L W=R0 at *
  generalize pe:xA (t.syms.map jA)=row0 at *
  generalize hrow1:xA (ms.map jA)=row1 at *
  generalize rd:t.syms.map jA=old at *
  simp [uI,-J,-y6,-y5,y0,-aA,-uA,wA,tA,eA,qA,AV.plain,AV.scal,wA,e3,e5,m3,m5,h9,d0,d17,ds,d18,rl,↓fj,↓dj,ud,rj,zg,pb,aj,mm,xb,q1,q2,q3,q4,uv,wv,xv,ac,-y8];refine ze _ (by rw [cm]) (by simp) ?_;refine mI _ _ ?_ rfl _ rfl rfl ?_
  ·dsimp only; omega
  ·exact hK.set (.inr (.inl gl)) (by omega)
 ·skip
  have jo:=symIx_f hh;rw [jo] at ud;obtain ⟨ms,tl⟩:∃ ms,ms=CE LC.id e.sym t.syms:=⟨_,rfl⟩;have cm:mA t e=(0,{ t with syms:=ms }):=by simp [mA,he,ha,hh,tl] 
  have ph:AA 2 (ms.map jA)=true:=pD ms;have um:((ms.map jA).all fun c=>c.all AV.free0)=true:=LD ms;have ci:(ms.map jA).length=ms.length:=y7 _
  -- what the end is like
  have mI:∀ (X:rA) (N:Nat) (oa:Nat->Nat->Option (List rA)) (nx':Nat),nx<=N->N<nx'->X=⟨.ref 148 N 2 0 ms.length ms.length,.no⟩->oa 9 N0=some (OA (L.set k { t with syms:=ms }) (W.set k (X,w.2)))->oa 148 N=some (xA (ms.map jA))->(∀ tn nn l,tn∈KS->nn<nx->(tn,nn) ∉ LJ w.1->jD l=true->mem tn nn=some (xA l)->oa tn nn=some (xA l))->∀ s':pA,s'.mem=oa->s'.next=nx'->fN N0 s0 s'->iE L W N0 k V0 t e s0 s':=fun X N oa nx' hN kz hX sk hr hm s' lg gr nj=>by
   subst lg;subst gr;refine ⟨(X,w.2),?_,nj⟩;rw [cm];have nc:∀ p∈LJ w.2,p ∉ LJ w.1:=fun p hp hq=>by
    unfold AI at wd;obtain ⟨_,_,h3⟩:=yN.1 wd;exact h3 p hq p hp rfl
   have zt:LJ X=[(148,N)]:=by rw [hX]; rfl
   refine hT.upd hL hW (by omega) sk (fun tn nn l ht zg zc se ja=>hm tn nn l ht zg (fun h=>zc (yq.2 (.inl h))) se ja) ⟨?_,?_⟩ ?_ (fun p hp=>?_)
   ·exact .inr ⟨148,N,by rw [hX,y7],by decide,kz,hr⟩
   ·exact c6.up' (KD _) (fun tn nn l ht hn se ja=>hm tn nn l ht (c6.nm _ hn).2 (nc _ hn) se ja) (by omega)
   ·unfold AI at wd ⊢;obtain ⟨g1,g2,_⟩:=yN.1 wd;dsimp only;rw [zt];refine yN.2 ⟨by simp,g2,fun p hp q hq e=>?_⟩;subst e;have h1:=(c6.nm p hq).2;simp only [Y03] at hp;rw [hp] at h1;dsimp only at h1;omega
   ·unfold AI at hp ⊢;dsimp only at hp;rw [zt] at hp;rcases yq.1 hp with hp | hp
    ·simp only [Y03] at hp;rw [hp];exact .inr hN
    ·exact .inl (yq.2 (.inr hp))
  have ik:=dX (f:=LC.id) e.sym.id t.syms;have aq:∀ b:Bool,(b=true->t.syms=[])->rD sB BA 72 [.undef,.sl b (t.syms.map jA),.int .i64 (dH LC.id e.sym.id t.syms:Nat),.sl false [jA e.sym]] (some (.int .i64 2))=some (.sl false (ms.map jA),none):=fun b hb=>by
   have:=ins_s (b:=b) (x:=e.sym) ik (by omega) hb;rw [tl,WP];exact this
  have pq:(jA e.sym).length=2:=rfl;have hxf:(jA e.sym).all AV.free0=true:=rfl;obtain ⟨P,hP⟩:∃ P:Int,P=(dH LC.id e.sym.id t.syms:Nat):=⟨_,rfl⟩;rw [<- hP] at aq;have wj:=fun (n:Int) (a0 a1:An) (hn:n=t.syms.length) (s:pA) (h:Pls k N0 n3 n5 e.sym.id t.syms s) (KK:rA->pA->Option RV) (hk:∀ s' a,MN s s'->KK ⟨.int .i64 P,a⟩ s'=some r)=>pls_h (a0:=a0) (a1:=a1) hn (by omega) s h KK (by rw [<- hP]; exact hk)
  rcases c5 with ⟨h0,b,sd⟩ | ⟨tm,nm,sd,gl,gd,mm⟩
  ·have az:t.syms=[]:=List.map_eq_nil_iff.1 h0;have ui:=aq b (fun _=>az);rw [h0] at ui;have nq:∀ N,uA false 1 (k * 10 + 5) (OA L W) (.ref 148 N 2 0 ms.length ms.length) .no=some (OA (L.set k { t with syms:=ms }) (W.set k (⟨.ref 148 N 2 0 ms.length ms.length,.no⟩,w.2))):=fun N=>iD hL hW (j:=5) (by omega) rfl (by rfl)
   rw [sd] at rj;rw [sd] at fj;dsimp only at fj;have lq:w.1.v=.sl b []:=by rw [sd]
   rw [lq] at rl;have lz:∀ env' nx' nb mg,Pls k N0 n3 n5 e.sym.id t.syms ⟨env',mem,nx',nb,mg⟩:=fun _ _ _ _=>⟨⟨_,m5⟩,⟨_,0,0,h9,fun h=>absurd az h⟩,⟨R3,m3,d17⟩⟩
   generalize jA e.sym=xc at *
   generalize sj:ms.map jA=mc at *
   generalize cn:OA L W=R0 at *
   simp [uI,-J,-y6,-y5,y0,-aA,-uA,wA,tA,eA,qA,AV.plain,AV.scal,wA,e3,e5,m3,m5,h9,d0,d17,ds,rl,↓fj,↓dj,ud,rj,-y8];refine wj 0 _ _ (by rw [az]; rfl) _ (lz _ _ _ _) _ (fun s' an hs=>?_);obtain ⟨env',oa,nx',nb,mg⟩:=s';obtain ⟨g1,g2,g3⟩:=hs;dsimp only at g1 g2 g3;subst g1;subst g2;simp [-J,-y6,-y5,y0,-aA,-uA,wA,tA,eA,qA,uX,wA,TG,e3,e5,m3,m5,h9,ds,rj,pq,hxf,ui,ph,um,ci,nq,-y8];refine af _ (by rw [cm]) ?_;refine mI _ (nx' + 1) _ _ (by omega) ?_ rfl ?_ ?_ (fun tn nn l ht zg _ _ ja=>?_) _ rfl rfl ?_
   ·dsimp only; omega
   ·simp [kA]
   ·simp [kA,sj]
   ·skip
    obtain ⟨q1,q2,q3,q4⟩:=sf ht;have e1:¬ nn=nx' + 1:=by omega
    simp [kA,q3,e1,ja]
   ·refine (hK.fresh (row:=148) (by decide) ?_);omega
  ·have ui:=aq false (fun h=>by cases h);have zf:(tm,nm)∈AI w:=by unfold AI; rw [sd]; simp [LJ]
   have uj:w.2.kill tm nm=w.2:=c6.kill fun hp=>by
    unfold AI at wd;obtain ⟨_,_,h3⟩:=yN.1 wd;have ji:(tm,nm)∈LJ w.1:=by rw [sd]; simp [LJ]
    exact h3 _ ji _ hp rfl
   have nq:∀ N,uA false 1 (k * 10 + 5) ((OA L W).map (rA.kill tm nm)) (.ref 148 N 2 0 ms.length ms.length) .no=some (OA (L.set k { t with syms:=ms }) (W.set k (⟨.ref 148 N 2 0 ms.length ms.length,.no⟩,w.2))):=fun N=>ZN hT hL hW zf (j:=5) (by omega) rfl (by simp only [killW,uj]; rfl)
   obtain ⟨q1,q2,q3,q4⟩:=sf gl;have uv:¬ 3=tm:=fun e=>q1 e.symm
   have wv:¬ 5=tm:=fun e=>q2 e.symm
   have xv:¬ 9=tm:=fun e=>q3 e.symm
   have xb:=LB (pD t.syms) (LD _);rw [y7] at xb sd;rw [sd] at rj;rw [sd] at fj;dsimp only at fj;have lq:w.1.v=.ref tm nm 2 0 t.syms.length t.syms.length:=by rw [sd]
   rw [lq] at rl;have lz:∀ env' nx' nb mg,Pls k N0 n3 n5 e.sym.id t.syms ⟨env',mem,nx',nb,mg⟩:=fun _ _ _ _=>⟨⟨_,m5⟩,⟨_,tm,nm,h9,fun _=>⟨rj,mm⟩⟩,⟨R3,m3,d17⟩⟩
   generalize jA e.sym=xc at *
   generalize sj:ms.map jA=mc at *
   generalize cn:OA L W=R0 at *
   simp [uI,-J,-y6,-y5,y0,-aA,-uA,wA,tA,eA,qA,AV.plain,AV.scal,wA,e3,e5,m3,m5,h9,d0,d17,ds,rl,↓fj,↓dj,ud,rj,-y8];refine wj _ _ _ rfl _ (lz _ _ _ _) _ (fun s' an hs=>?_);obtain ⟨env',oa,nx',nb,mg⟩:=s';obtain ⟨g1,g2,g3⟩:=hs;dsimp only at g1 g2 g3;subst g1;subst g2;generalize pe:xA (t.syms.map jA)=row0 at *
   generalize rd:t.syms.map jA=old at *
   simp [-J,-y6,-y5,y0,-aA,-uA,wA,tA,eA,qA,wA,TG,e3,e5,m3,m5,h9,mm,xb,ds,rj,q1,q2,q3,q4,uv,wv,xv,pq,hxf,ui,ph,um,ci,nq,-y8];refine af _ (by rw [cm]) ?_;refine mI _ (nx' + 1) _ _ (by omega) ?_ rfl ?_ ?_ (fun tn nn l ht zg zc se ja=>?_) _ rfl rfl ?_
   ·dsimp only; omega
   ·simp [kA]
   ·simp [kA,sj]
   ·skip
    obtain ⟨q5,q6,q7,q8⟩:=sf ht;have e1:¬ nn=nx' + 1:=by omega
    have e2:¬ (tn=tm/\nn=nm):=fun e=>zc (by rw [sd,e.1,e.2]; simp [LJ])
    simp [kA,OJ,q7,e1,e2,ja,eM se]
   ·refine (hK.swap (row:=148) gl (by decide) ?_);omega
theorem ch5 (he:e.kind=5) (ha:GB e.kind t.kind=true) (hL:L[k]?=some t) (hW:W[k]?=some w) (asc:eP t) (l1:t.mems.length<=800) (l2:t.syms.length<=800) (s0 s:pA) (h:zW L W N0 k n3 n5 V0 e R3 s0 s) (K:Ex->pA->Option RV)
  (af:∀ s',(mA t e).1=0->iE L W N0 k V0 t e s0 s'->K .nrm s'=some r) (ze:∀ s',(mA t e).1=0->(s'.env 4).v=.int .i64 0->iE L W N0 k V0 t e s0 s'->K .ret s'=some r) (bh:∀ s',¬ (mA t e).1=0->(s'.env 4).v=.int .i64 (mA t e).1->fN N0 s0 s'->K .ret s'=some r):uI.run (rD sB BA) (IF sB BA) s K=some r:=by
 rw [he] at ha;obtain ⟨env,mem,nx,obj,gh⟩:=s;obtain ⟨e3,e5,m3,m5,⟨d0,d1,d2,d3,d4,d17,d18,d19,d20,d21,d22,d23,d24,dm,ds⟩,hT,hK⟩:=h;dsimp only at e3 e5 m3 m5 hT hK;rw [he] at d0;have dn:L≠[]:=fun e=>by rw [e] at hL; cases hL
 obtain ⟨-,py,h9,xw⟩:=hT.v0.resolve_left fun h=>dn h.1
 obtain ⟨c5,c6⟩:=hT.cell k t w hL hW;obtain ⟨b5,t5,n5',-,-,-,f5⟩:=c5.frz (pD _) (LD _);obtain ⟨b6,t6,n6',-,-,-,f6⟩:=c6.frz (AC _) (KD _);have fj:∀ env nx obj gh,AV.frz0 ⟨env,mem,nx,obj,gh⟩ w.1.v=.sl b5 (t.syms.map jA):=fun _ _ _ _=>f5 _ (fun _ _=>rfl)
 have dj:∀ env nx obj gh,AV.frz0 ⟨env,mem,nx,obj,gh⟩ w.2.v=.sl b6 (t.mems.map fA):=fun _ _ _ _=>f6 _ (fun _ _=>rfl)
 have ud:=LE (SS ⟨t.kind,t.name,t.low,t.high,t.max,b5,t.syms,b6,t.mems,t.key,t.elem,t.opn⟩ e.id (by dsimp only; omega));simp only [pQ,iA] at ud;have rl:=bL hL hW;simp only [OB,yk,yR] at rl;have rj:=ND hL hW (j:=5) (by omega);simp only [OB,yZ,Y01] at rj;have sf:∀ {t:Nat},t∈KS->¬ t=3/\¬ t=5/\¬ t=9/\¬ t=0:=fun {t} ht=>by
  refine ⟨?_,?_,?_,?_⟩ <;> (intro e; subst e; exact absurd ht (by decide))
 have wd:=KJ hT.nd w (yD hW);by_cases hh:QP t.syms e.id=true
 ·obtain ⟨i,x,ux,hi,gz⟩:=symIx_t hh;rw [ux] at ud;obtain ⟨ms,tl⟩:∃ ms,ms=t.syms.filter (fun m=>!decide (m.id=e.id)):=⟨_,rfl⟩;have cm:mA t e=(0,{ t with syms:=ms }):=by simp [mA,he,ha,hh,tl] 
  have ph:AA 2 (ms.map jA)=true:=pD ms;have um:((ms.map jA).all fun c=>c.all AV.free0)=true:=LD ms;have ci:(ms.map jA).length=ms.length:=y7 _
  -- what the end is like
  have mI:∀ (X:rA) (N:Nat) (oa:Nat->Nat->Option (List rA)) (nx':Nat),nx<=N->N<nx'->X=⟨.ref 169 N 2 0 ms.length ms.length,.no⟩->oa 9 N0=some (OA (L.set k { t with syms:=ms }) (W.set k (X,w.2)))->oa 169 N=some (xA (ms.map jA))->(∀ tn nn l,tn∈KS->nn<nx->(tn,nn) ∉ LJ w.1->jD l=true->mem tn nn=some (xA l)->oa tn nn=some (xA l))->∀ s':pA,s'.mem=oa->s'.next=nx'->fN N0 s0 s'->iE L W N0 k V0 t e s0 s':=fun X N oa nx' hN kz hX sk hr hm s' lg gr nj=>by
   subst lg;subst gr;refine ⟨(X,w.2),?_,nj⟩;rw [cm];have nc:∀ p∈LJ w.2,p ∉ LJ w.1:=fun p hp hq=>by
    unfold AI at wd;obtain ⟨_,_,h3⟩:=yN.1 wd;exact h3 p hq p hp rfl
   have zt:LJ X=[(169,N)]:=by rw [hX]; rfl
   refine hT.upd hL hW (by omega) sk (fun tn nn l ht zg zc se ja=>hm tn nn l ht zg (fun h=>zc (yq.2 (.inl h))) se ja) ⟨?_,?_⟩ ?_ (fun p hp=>?_)
   ·exact .inr ⟨169,N,by rw [hX,y7],by decide,kz,hr⟩
   ·exact c6.up' (KD _) (fun tn nn l ht hn se ja=>hm tn nn l ht (c6.nm _ hn).2 (nc _ hn) se ja) (by omega)
   ·unfold AI at wd ⊢;obtain ⟨g1,g2,_⟩:=yN.1 wd;dsimp only;rw [zt];refine yN.2 ⟨by simp,g2,fun p hp q hq e=>?_⟩;subst e;have h1:=(c6.nm p hq).2;simp only [Y03] at hp;rw [hp] at h1;dsimp only at h1;omega
   ·unfold AI at hp ⊢;dsimp only at hp;rw [zt] at hp;rcases yq.1 hp with hp | hp
    ·simp only [Y03] at hp;rw [hp];exact .inr hN
    ·exact .inl (yq.2 (.inr hp))
  have aj:=(yh.1 hi).1;have du:=del_s aj (by omega);have fi:t.syms.take i++t.syms.drop (i + 1)=ms:=by rw [tl,<- gz]; exact (sS asc.2 hi).1.symm
  rw [fi] at du;have hw:=eB (i:=i);rcases c5 with ⟨h0,b,sd⟩ | ⟨tm,nm,sd,gl,gd,mm⟩
  ·rw [List.map_eq_nil_iff.1 h0] at aj;exact absurd aj (Nat.not_lt_zero _)
  ·have zf:(tm,nm)∈AI w:=by unfold AI; rw [sd]; simp [LJ]
   have uj:w.2.kill tm nm=w.2:=c6.kill fun hp=>by
    unfold AI at wd;obtain ⟨_,_,h3⟩:=yN.1 wd;have ji:(tm,nm)∈LJ w.1:=by rw [sd]; simp [LJ]
    exact h3 _ ji _ hp rfl
   have nq:∀ N,uA false 1 (k * 10 + 5) ((OA L W).map (rA.kill tm nm)) (.ref 169 N 2 0 ms.length ms.length) .no=some (OA (L.set k { t with syms:=ms }) (W.set k (⟨.ref 169 N 2 0 ms.length ms.length,.no⟩,w.2))):=fun N=>ZN hT hL hW zf (j:=5) (by omega) rfl (by simp only [killW,uj]; rfl)
   obtain ⟨q1,q2,q3,q4⟩:=sf gl;have uv:¬ 3=tm:=fun e=>q1 e.symm
   have wv:¬ 5=tm:=fun e=>q2 e.symm
   have xv:¬ 9=tm:=fun e=>q3 e.symm
   have xb:=LB (pD t.syms) (LD _);rw [y7] at xb sd;rw [sd] at rj;rw [sd] at fj;dsimp only at fj;have lq:w.1.v=.ref tm nm 2 0 t.syms.length t.syms.length:=by rw [sd]
   rw [lq] at rl;have zg:¬ (i:Int)<0:=by omega
   generalize sj:ms.map jA=mc at *
   generalize cn:OA L W=R0 at *
   generalize pe:xA (t.syms.map jA)=row0 at *
   generalize rd:t.syms.map jA=old at *
   simp [uI,-J,-y6,-y5,y0,-aA,-uA,wA,tA,eA,qA,AV.plain,AV.scal,wA,e3,e5,m3,m5,h9,d0,d2,rl,↓fj,↓dj,ud,rj,zg,hw,mm,xb,q1,q2,q3,q4,uv,wv,xv,du,ph,um,ci,nq,-y8];refine af _ (by rw [cm]) ?_;refine mI _ (nx + 8) _ _ (by omega) ?_ rfl ?_ ?_ (fun tn nn l ht zg zc se ja=>?_) _ rfl rfl ?_
   ·dsimp only; omega
   ·simp [kA]
   ·simp [kA,sj]
   ·skip
    obtain ⟨q5,q6,q7,q8⟩:=sf ht;have e1:¬ nn=nx + 8:=by omega
    have e2:¬ (tn=tm/\nn=nm):=fun e=>zc (by rw [sd,e.1,e.2]; simp [LJ])
    simp [kA,OJ,q7,e1,e2,ja,eM se]
   ·refine (hK.swap (row:=169) gl (by decide) ?_);omega
 ·have jo:=symIx_f hh;rw [jo] at ud;have ac:mA t e=(4,t):=by simp [mA,he,ha,hh]
  rw [ac] at bh;generalize cn:OA L W=R0 at *
  simp [uI,-J,-y6,-y5,y0,-aA,-uA,wA,tA,eA,qA,AV.plain,AV.scal,wA,e3,e5,m3,m5,h9,d0,d2,rl,↓fj,↓dj,ud,-y8];exact bh _ (by simp) (by simp) (hK.env (by omega))
end
theorem nX.mono {L:List QA} {W:List (rA × rA)} {N0 nx nx':Nat} {V0:AV} {mem oa:Nat->Nat->Option (List rA)} (h:nX L W N0 nx V0 mem) (h9:oa 9 N0=mem 9 N0) (hm:∀ t n,t∈KS->n<nx->oa t n=mem t n) (hx:nx<=nx'):nX L W N0 nx' V0 oa :=
 ⟨h.len,h.v0.imp_right fun ⟨h1,h2,h3,h4⟩=>⟨h1,h2,by rw [h9]; exact h3,by omega⟩,fun i t w ht hw=>let ⟨c1,c2⟩:=h.cell i t w ht hw; ⟨c1.up hm hx,c2.up hm hx⟩,h.nd⟩
theorem chAll {r:RV} {L:List QA} {W:List (rA × rA)} {N0 k n3 n5:Nat} {V0:AV} {e:RB} {R3:List rA} {t:QA} {w:rA × rA} (ha:GB e.kind t.kind=true) (hL:L[k]?=some t) (hW:W[k]?=some w) (asc:eP t) (l1:t.mems.length<=800) (l2:t.syms.length<=800) (s0 s:pA) (h:zW L W N0 k n3 n5 V0 e R3 s0 s) (K:Ex->pA->Option RV)
  (af:∀ s',(mA t e).1=0->iE L W N0 k V0 t e s0 s'->K .nrm s'=some r) (ze:∀ s',(mA t e).1=0->(s'.env 4).v=.int .i64 0->iE L W N0 k V0 t e s0 s'->K .ret s'=some r) (bh:∀ s',¬ (mA t e).1=0->(s'.env 4).v=.int .i64 (mA t e).1->fN N0 s0 s'->K .ret s'=some r):uI.run (rD sB BA) (IF sB BA) s K=some r:=by
 rcases WX _ _ ha with he | he | he | he | he | he | he | he | he
 ·exact ch1 he ha hL hW asc l1 l2 s0 s h K af ze bh
 ·exact ch2 he ha hL hW asc l1 l2 s0 s h K af ze bh
 ·exact ch3 he ha hL hW asc l1 l2 s0 s h K af ze bh
 ·exact ch4 he ha hL hW asc l1 l2 s0 s h K af ze bh
 ·exact ch5 he ha hL hW asc l1 l2 s0 s h K af ze bh
 ·exact ch6 he ha hL hW asc l1 l2 s0 s h K af ze bh
 ·exact ch7 he ha hL hW asc l1 l2 s0 s h K af ze bh
 ·exact ch8 he ha hL hW asc l1 l2 s0 s h K af ze bh
 ·exact ch9 he ha hL hW asc l1 l2 s0 s h K af ze bh
theorem change_h {r:RV} {L:List QA} {W:List (rA × rA)} {N0 bt bn:Nat} {V0:AV} {e:RB} {a0 a1 ab:An} (hbt:¬ bt=3/\¬ bt=5/\¬ bt=9) (da:L.length<=1000) (sa:gN (fun _=>True) 800 L) (s:pA) (hT:nX L W N0 s.next V0 s.mem) (hb:s.mem bt bn=some [⟨V0,ab⟩]) (k:rA->pA->Option RV)
  (hk:∀ s' a,((nC L e).1=0->∃ W',nX (nC L e).2 W' N0 s'.next V0 s'.mem)->fN N0 s s'->k ⟨.int .i64 (nC L e).1,a⟩ s'=some r):evH sB BA 37 [⟨.ptr bt bn 0,a0⟩,⟨.agg (tC e),a1⟩] s k=some r:=by
 obtain ⟨env,mem,nx,obj,gh⟩:=s;dsimp only at hT hb;obtain ⟨b3,b5,b9⟩:=hbt;have jp:(tC e).length=25:=rfl;have hE:=edR e;obtain ⟨R3,rp⟩:∃ R3:List rA,R3=(tC e).map (⟨·,.no⟩):=⟨_,rfl⟩;rw [<- rp] at hE;have d0:=hE.d0;have d1:=hE.d1;refine bK PB rfl rfl ?_;rw [chS_code];have hK0:fN N0 ⟨env,mem,nx,obj,gh⟩ ⟨env,mem,nx,obj,gh⟩:=⟨fun _ _=>rfl,fun _ _ _ _ _ _ h _=>h,yf _⟩;have bad:nC L e=(4,L)->∀ (env':Nat->rA) (nx':Nat) (nb:Nat->Nat->Option AV) (s':pA),s'=⟨env',CO mem 3 nx R3,nx',nb,gh⟩->nx<=nx'->∀ a,k ⟨.int .i64 4,a⟩ s'=some r:=fun hs env' nx' nb s' he hx a=>by
  subst he;rw [hs] at hk;have q:=hK0.set (env':=env') (t:=3) (n:=nx) (r:=R3) (.inl (yf _)) hx;exact hk _ a (fun h=>by simp at h) ⟨q.gh,q.mem,q.next⟩
 by_cases fl:e.ty<0
 ·have hs:nC L e=(4,L):=by unfold nC; rw [if_neg (by omega)]
  generalize tC e=ed at *
  simp [chS0,chS1,PB,-J,-y6,-y5,y0,-aA,-uA,wA,tA,eA,qA,wA,jp,<- rp,d1,fl,CH,JE,sH];exact bad hs _ _ _ _ rfl (by omega) _
 rcases hT.v0 with ⟨hLe,b,hV⟩ | ⟨dn,hV,h9,xw⟩
 ·have hs:nC L e=(4,L):=by unfold nC; rw [if_pos (by omega),hLe]; rfl
  have h0:0<=e.ty:=by omega
  rw [hV] at hb;generalize tC e=ed at *
  simp [chS0,chS1,PB,-J,-y6,-y5,y0,-aA,-uA,wA,tA,eA,qA,wA,tA,jp,<- rp,d1,fl,hb,b3,h0,CH,JE,sH];exact bad hs _ _ _ _ rfl (by omega) _
 by_cases th:(L.length:Int)<=e.ty
 ·have hs:nC L e=(4,L):=by unfold nC; rw [if_pos (by omega),Y07 (by omega)]
  rw [hV] at hb;generalize tC e=ed at *
  simp [chS0,chS1,PB,-J,-y6,-y5,y0,-aA,-uA,wA,tA,eA,qA,wA,tA,jp,<- rp,d1,fl,hb,b3,th,CH,JE,sH];exact bad hs _ _ _ _ rfl (by omega) _
 have h0:0<=e.ty:=by omega
 obtain ⟨t,ht⟩:∃ t,L[e.ty.toNat]?=some t:=⟨_,yg (by omega)⟩;obtain ⟨w,hw⟩:∃ w,W[e.ty.toNat]?=some w:=⟨_,yg (by have:=hT.len; omega)⟩;have htm:=yD ht;obtain ⟨k1,k2⟩:=sa.len t htm;have nc:=LE (eapp_ev e.kind t.kind);simp only [pQ] at nc;have r0:=ND ht hw (j:=0) (by omega);simp only [OB,Y01,yJ] at r0;have ba:e.ty.toNat<L.length:=by omega
 have hVV:=hV;rw [hV] at hb;have ac:∀ c,(mA t e).1=c->¬ c=0->nC L e=(c,L):=fun c hc hn=>by
  unfold nC; rw [if_pos h0,ht]; simp only; rw [if_neg (by omega),hc]
 have mo:(mA t e).1=0->nC L e=(0,L.set e.ty.toNat (mA t e).2):=fun hc=>by
  unfold nC; rw [if_pos h0,ht]; simp only; rw [if_pos hc]
 have q:=fun (s:pA) (h:zW L W N0 e.ty.toNat nx (nx + 2) V0 e R3 ⟨env,mem,nx,obj,gh⟩ s) (ha:GB e.kind t.kind=true)=>chAll (r:=r) ha ht hw (sa.asc t htm) k1 k2 _ s h
 -- the state ahead of the switch
 have pre:∀ (env':Nat->rA) (nx':Nat) (nb:Nat->Nat->Option AV) (R5:List rA),(env' 3).v=.ptr 3 nx 0->(env' 5).v=.ptr 5 (nx + 2) 0->nx + 3<=nx'->zW L W N0 e.ty.toNat nx (nx + 2) V0 e R3 ⟨env,mem,nx,obj,gh⟩ ⟨env',CO (CO (CO mem 3 nx R3) 5 (nx + 2) R5) 5 (nx + 2) [⟨.ptr 9 N0 (e.ty.toNat * 10),.no⟩],nx',nb,gh⟩:=fun env' nx' nb R5 h3 h5 hx=>by
  refine ⟨h3,h5,by simp [kA],by simp [kA],hE,?_,?_⟩
  ·refine hT.mono (by simp [kA]) (fun t n ht hn=>?_) (by dsimp only; omega);have e3:¬ t=3:=fun e=>by subst e; exact absurd ht (by decide)
   have e5:¬ t=5:=fun e=>by subst e; exact absurd ht (by decide)
   simp [kA,e3,e5]
  ·have q:=((hK0.set (env':=env) (t:=3) (n:=nx) (r:=R3) (.inl (yf _)) (yf _)).set (env':=env) (t:=5) (n:=nx + 2) (r:=R5) (.inl (by dsimp only; omega)) (yf _)).set (env':=env') (nx':=nx') (t:=5) (n:=nx + 2) (r:=[⟨.ptr 9 N0 (e.ty.toNat * 10),.no⟩]) (.inl (by dsimp only; omega)) (by omega);exact ⟨q.gh,q.mem,q.next⟩
 generalize hzt:e.ty=z at *
 generalize tC e=ed at *
 generalize cn:OA L W=R0 at *
 by_cases ha:GB e.kind t.kind=true
 ·rw [ha] at nc;simp [chS0,chS1,chS2,chS3,-J,-y6,-y5,y0,-aA,-uA,wA,tA,eA,qA,AV.plain,AV.scal,wA,tA,eA,jp,<- rp,d0,d1,fl,th,h0,hb,h9,b3,b5,ba,r0,nc];refine q _ (pre _ _ _ _ (by simp) (by simp) (by omega)) ha _ (fun s' hc hA=>?_) (fun s' hc e4 hA=>?_) (fun s' hc e4 bm=>?_)
  ·obtain ⟨w',tp,bm⟩:=hA;have hs:=mo hc;rw [hs] at hk;simp [chS5,chS6,PB,-J,-y6,-y5,y0,CH,JE,sH];exact hk _ _ (fun _=>⟨_,tp.up (by dsimp only; omega)⟩) ⟨bm.gh,bm.mem,by have:=bm.next; dsimp only at this ⊢; omega⟩
  ·obtain ⟨w',tp,bm⟩:=hA;have hs:=mo hc;rw [hs] at hk;have kt:s'.env 4=⟨.int .i64 0,(s'.env 4).a⟩:=by rw [<- e4]
   simp [PB,-J,-y6,-y5,y0,CH,JE,sH];rw [kt];exact hk _ _ (fun _=>⟨_,tp⟩) bm
  ·have hs:=ac _ rfl hc;rw [hs] at hk;have kt:s'.env 4=⟨.int .i64 (mA t e).1,(s'.env 4).a⟩:=by rw [<- e4]
   simp [PB,-J,-y6,-y5,y0,CH,JE,sH];rw [kt];exact hk _ _ (fun h=>absurd h hc) bm
 ·have hc:(mA t e).1=1:=by unfold mA; rw [if_pos (Bool.eq_false_iff.2 ha)]
  have hs:=ac 1 hc (by decide);rw [hs] at hk;rw [Bool.eq_false_iff.2 ha] at nc;simp [chS0,chS1,chS2,chS3,PB,-J,-y6,-y5,y0,-aA,-uA,wA,tA,eA,qA,AV.plain,AV.scal,wA,tA,eA,jp,<- rp,d0,d1,fl,th,h0,hb,h9,b3,b5,ba,r0,nc,CH,JE,sH];have q:=(pre (fun t=>⟨if t=3 then .ptr 3 nx 0 else .ptr 5 (nx + 2) 0,.no⟩) (nx + 10) obj [⟨.nilP,.no⟩] (by simp) (by simp) (by omega)).kp;exact hk _ _ (fun h=>by simp at h) ⟨q.gh,q.mem,by dsimp only; omega⟩
structure RpI (ln:Bool) (l:List RB) (b:Bool) (L:List QA) (s:pA):Prop where
 e1:(s.env 1).v=.sl ln (l.map tC)
 e2:(s.env 2).v=.ptr 2 1 0
 e4:(s.env 4).v=.ptr 4 1 0
 m2:s.mem 2 1=some [⟨.sl b (L.map iA),.no⟩]
 m4:s.mem 4 1=some [⟨.sl true [],.ex⟩]
 nx:1<s.next
theorem lQ (B:List QA) (i:Nat) (e:RB) (r:List RB):dE B i (e :: r)=if (nC B e).1=0 then dE (nC B e).2 (i + 1) r else (i,(nC B e).1,[]):=rfl
theorem rap_lp {rv:RV} {ln:Bool} {l:List RB} {MP:fB->Prop} {B0:List QA} (hl:l.length<=380) (hB:B0.length<=1000) (hmp:∀ e∈l,MP e.mem) (s:pA) (b:Bool) (L:List QA) (hL:UA L=B0) (sa:gN MP 16 L) (h:RpI ln l b L s) (e8:(s.env 8).v=.int .i64 0) (k:Ex->pA->Option RV)
  (ze:∀ (s':pA) (b:Bool) (L:List QA),(dE B0 0 l).2.1=0->UA L=(dE B0 0 l).2.2->L.length=B0.length->gN MP 400 L->RpI ln l b L s'->k (.exit 0) s'=some rv)
  (bh:∀ s':pA,¬ (dE B0 0 l).2.1=0->(s'.env 4).v=.ptr 4 1 0->s'.mem 4 1=some [⟨.sl true [],.no⟩]->(s'.env 5).v=.int .i64 (dE B0 0 l).1->(s'.env 6).v=.int .i64 (dE B0 0 l).2.1->k .ret s'=some rv):zF E5 E9 uF s k=some rv:=by
 refine nP l.length (fun i s=>∃ b L,RpI ln l b L s/\(s.env 8).v=.int .i64 i/\dE (UA L) i (l.drop i)=dE B0 0 l/\gN MP (16 + i) L/\L.length=B0.length)
  (fun e s=>(e=.exit 0/\∃ b L,(dE B0 0 l).2.1=0/\UA L=(dE B0 0 l).2.2/\L.length=B0.length/\gN MP 400 L/\RpI ln l b L s)\/(e=.ret/\¬ (dE B0 0 l).2.1=0/\(s.env 4).v=.ptr 4 1 0/\s.mem 4 1=some [⟨.sl true [],.no⟩]/\(s.env 5).v=.int .i64 (dE B0 0 l).1/\(s.env 6).v=.int .i64 (dE B0 0 l).2.1)) (fun i hi s k h ih hk=>?_) _ _ ⟨b,L,h,e8,by rw [hL]; rfl,sa,by rw [<- hL]; exact (y7 _).symm⟩ (fun e s h=>?_)
 ·obtain ⟨b,L,⟨e1,e2,e4,m2,m4,nx⟩,e8,na,sa,da⟩:=h;obtain ⟨env,mem,nxt,obj,gh⟩:=s;dsimp only at e1 e2 e4 m2 m4 nx e8;have kb:(l.map tC).length=l.length:=y7 _;refine gA ?_;by_cases ba:i<l.length
  ·have ea:(i:Int)<l.length:=by omega
   have hw:=eB (i:=i);obtain ⟨q,hq⟩:∃ q,l[i]?=some q:=⟨_,yg ba⟩;have hqm:=yD hq;have g1:(l.map tC)[i]?=some (tC q):=by rw [yc,hq]; rfl
   have jp:(tC q).length=25:=rfl;have fr2:(tC q).all AV.free0=true:=rfl;have ak:l.drop i=q :: l.drop (i + 1):=by rw [yj ba,(yh.1 hq).2]
   rw [ak,lQ,OZ] at na;obtain ⟨b',L',ls,hz,hnz⟩:=step_ev b L q (by omega) ⟨sa.asc,fun t ht=>by have:=sa.len t ht; omega,fun _ _ _ _=>trivial⟩;have ac:=PZ sa (hmp q hqm);have xf:=cV L q;generalize nC L q=sp at *
   have wa:=ih ba;have ro:(tC q).take 25=tC q:=rfl;simp only [cW] at ls;have dk:¬ nxt=1:=by omega
   have za:∀ j:Nat,¬ (nxt + j=1):=fun j=>by omega
   generalize tC q=ed at *
   generalize kg:L.map iA=ma at *
   generalize ud:L'.map iA=mb at *
   generalize fc:l.map tC=me at *
   by_cases je:sp.1=0
   ·obtain ⟨h1,rfl⟩:=hz je;rw [if_pos je,<- h1] at na;rw [je] at ls;simp [uF,-J,-y6,-y5,y0,-aA,-uA,wA,tA,eA,qA,tA,qA,e1,e2,e8,m2,ea,hw,kb,↓g1,jp,ro,fr2,ls,-y8];refine wa _ ⟨false,L',⟨by simp [e1,fc],by simp [e2],by simp [e4],by simp [kA,ud],by simp [kA,m4],by dsimp only; omega⟩,by simp,na,?_,?_⟩
    ·have:=gN.bare ac;rw [<- h1] at this;exact this.un.up (by omega)
    ·have:=congrArg List.length h1;unfold UA at this;rw [y7,y7,xf] at this;omega
   ·rw [if_neg je] at na;rw [<- na] at hk;simp [uF,-J,-y6,-y5,y0,-aA,-uA,wA,tA,eA,qA,tA,qA,e1,e2,e4,e8,m2,m4,ea,hw,kb,↓g1,jp,ro,fr2,ls,je,-y8];exact hk _ _ (.inr ⟨rfl,je,by simp [e4],by simp [kA],by simp,by simp⟩)
  ·have ea:¬ (i:Int)<l.length:=by omega
   have:i=l.length:=by omega
   subst this;rw [List.drop_length] at na;simp [uF,-J,-y6,-y5,y0,-aA,-uA,wA,tA,eA,qA,e1,e8,kb];refine hk _ _ (.inl ⟨rfl,b,L,?_,?_,da,sa.up (by omega),by simp [e1],by simp [e2],by simp [e4],m2,m4,by dsimp only; omega⟩)
   ·rw [<- na]; rfl
   ·rw [<- na]; rfl
 ·rcases h with ⟨rfl,b,L,h1,h2,h3,h4,h5⟩ | ⟨rfl,h1,h2,h3,h4,h5⟩
  ·exact ze _ _ _ h1 h2 h3 h4 h5
  ·exact bh _ h1 h2 h3 h4 h5
def gC (B:List QA) (l:List RB):Nat × Int × List QA :=
 if ¬ EB B=0 then (0,EB B,[])
 else if ¬ (dE B 0 l).2.1=0 then ((dE B 0 l).1,(dE B 0 l).2.1,[])
 else if ¬ EB (dE B 0 l).2.2=0 then (l.length,EB (dE B 0 l).2.2,[])
 else (l.length,0,(dE B 0 l).2.2)
theorem fine_of {n:Nat} {L:List QA} (hn:n<=100000) (h:gN fB.ok n L) (hl:L.length<=100000) (b:Bool):wP.fine ⟨b,L⟩ :=
 ⟨by show L.length<=_; omega,fun t ht=>by
  obtain ⟨h1,h2⟩:=h.len t ht;exact ⟨⟨by omega,by omega,h.mem t ht⟩,by omega,by omega⟩⟩
theorem bV {MP:fB->Prop} {L:List QA} (hv:EB L=0) (hm:∀ t∈L,∀ m∈t.mems,MP m):gN MP 16 L:=by
 have hg:∀ t∈L,zD t=true:=fun t ht=>by
  obtain ⟨j,hj,rfl⟩:=List.mem_iff_getElem.1 ht;exact (w6 (O3 hv j hj)).1
 exact ⟨fun t ht=>(E2 (hg t ht)).1,fun t ht=>(E2 (hg t ht)).2,hm⟩
theorem rS {S:List QA} (h:EB S=0):S.length<=32:=by
 unfold EB at h;split at h
 ·cases h
 ·omega
theorem B2 (s:wP) (ln:Bool) (l:List RB) (hs:s.fine) (hl:l.length<=380) (sb:∀ e∈l,e.mem.ok):∃ (b:Bool) (L':List QA),cW 15 [.agg (lD s),.sl ln (l.map tC)] (.tup [.agg [.sl b (L'.map iA)],.int .i64 (gC (UA s.types) l).1,.int .i64 (gC (UA s.types) l).2.1])/\UA L'=(gC (UA s.types) l).2.2:=by
 have hv:=DS (LE (xQ s hs));simp only [cW,lD] at hv;have kb:(l.map tC).length=l.length:=y7 _;by_cases h0:EB s.types=0
 case neg =>
  refine ⟨true,[],?_,?_⟩
  ·unfold gC;rw [if_pos (by rw [DD]; exact h0),DD];refine wC qC rfl rfl ?_;simp [qC,-J,-y6,-y5,y0,-aA,-uA,wA,tA,eA,qA,tA,qA,lD,hv,h0]
  ·unfold gC;rw [if_pos (by rw [DD]; exact h0)];rfl
 have sa:gN fB.ok 16 s.types:=bV h0 fun t ht=>(hs.2 t ht).1.2.2
 have js:=rS h0;have fk:(UA s.types).length=s.types.length:=y7 _
 -- what the end is like
 have mI:∀ L':List QA,L'.length=(UA s.types).length->gN fB.ok 400 L'->∀ b,cW 38 [.agg [.sl b (L'.map iA)]] (.int .i64 (EB L')):=fun L' h1 h2 b=>DS (LE (xQ ⟨b,L'⟩ (fine_of (by omega) h2 (by omega) b)))
 simp only [cW] at mI;rw [h0] at hv;have q:=fun rv:RV=>rap_lp (rv:=rv) (ln:=ln) (B0:=UA s.types) hl (by omega) sb
 have nc:∀ n e T,(EB (UA s.types)=0->gC (UA s.types) l=(n,e,T))->gC (UA s.types) l=(n,e,T):=fun n e T h=>h (by rw [DD]; exact h0)
 by_cases h1:(dE (UA s.types) 0 l).2.1=0
 case neg =>
  have hr:=nc (dE (UA s.types) 0 l).1 (dE (UA s.types) 0 l).2.1 [] (fun hv=>by unfold gC; rw [if_neg (by simp [hv]),if_pos h1]);refine ⟨true,[],?_,by rw [hr]; rfl⟩;rw [hr];refine wC qC rfl rfl ?_;simp only [lD];generalize kg:s.types.map iA=ma at *
  generalize fc:l.map tC=me at *
  simp [qC,-J,-y6,-y5,y0,-aA,-uA,wA,tA,eA,qA,tA,qA,hv];refine q _ _ s.nl s.types rfl sa ⟨by simp [fc],by simp,by simp,by simp [kA,kg],by simp [kA],by dsimp only; omega⟩ (by simp) _ (fun s' b L g1=>absurd g1 h1) (fun s' _ a4 am a5 a6=>?_);simp [-J,-y6,-y5,y0,-aA,-uA,wA,tA,eA,qA,a4,am,a5,a6,tA]
 -- the types that come out
 by_cases h2:EB (dE (UA s.types) 0 l).2.2=0
 case neg =>
  have hr:=nc l.length (EB (dE (UA s.types) 0 l).2.2) [] (fun hv=>by unfold gC; rw [if_neg (by simp [hv]),if_neg (by simp [h1]),if_pos h2]);refine ⟨true,[],?_,by rw [hr]; rfl⟩;rw [hr];refine wC qC rfl rfl ?_;simp only [lD];generalize kg:s.types.map iA=ma at *
  simp [qC,-J,-y6,-y5,y0,-aA,-uA,wA,tA,eA,qA,tA,qA,hv];refine q _ _ s.nl s.types rfl sa ⟨by simp,by simp,by simp,by simp [kA,kg],by simp [kA],by dsimp only; omega⟩ (by simp) _ (fun s' b L g1 g2 g3 g4 g5=>?_) (fun s' g1=>absurd h1 g1);obtain ⟨e1,e2,e4,m2,m4,nx⟩:=g5;have dr:=mI L g3 g4 b;rw [<- DD L,g2] at dr;generalize L.map iA=ml at *
  generalize fc:l.map tC=me at *
  simp [-J,-y6,-y5,y0,-aA,-uA,wA,tA,eA,qA,e1,e2,e4,m2,m4,dr,h2,kb,tA,qA]
 case pos =>
  have hr:=nc l.length 0 (dE (UA s.types) 0 l).2.2 (fun hv=>by unfold gC; rw [if_neg (by simp [hv]),if_neg (by simp [h1]),if_neg (by simp [h2])]);rw [hr]
  -- the loop's list is told by what the machine comes to
  have key:∃ (b:Bool) (L':List QA),UA L'=(dE (UA s.types) 0 l).2.2/\cW 15 [.agg (lD s),.sl ln (l.map tC)] (.tup [.agg [.sl b (L'.map iA)],.int .i64 l.length,.int .i64 0]):=by
   have kq:=j3 (T:=E5) (ext:=E9) apT_det (c:=qC.code) (by kernel_rfl) (s:=pA.init [.agg (lD s),.sl ln (l.map tC)] none) (F:=fun e s'=>e=.ret/\∃ (b:Bool) (L':List QA),UA L'=(dE (UA s.types) 0 l).2.2/\(s'.env 4).v=.ptr 4 1 0/\s'.mem 4 1=some [⟨.sl b (L'.map iA),.no⟩]/\(s'.env 5).v=.int .i64 l.length/\(s'.env 6).v=.int .i64 0) (fun k r hk=>by
    simp only [lD];have q:=q r;generalize kg:s.types.map iA=ma at *
    simp [qC,-J,-y6,-y5,y0,-aA,-uA,wA,tA,eA,qA,tA,qA,hv];refine q _ s.nl s.types rfl sa ⟨by simp,by simp,by simp,by simp [kA,kg],by simp [kA],by dsimp only; omega⟩ (by simp) _ (fun s' b L g1 g2 g3 g4 g5=>?_) (fun s' g1=>absurd h1 g1);obtain ⟨e1,e2,e4,m2,m4,nx⟩:=g5;have dr:=mI L g3 g4 b;rw [<- DD L,g2,h2] at dr;generalize nh:L.map iA=ml at *
    generalize fc:l.map tC=me at *
    simp [-J,-y6,-y5,y0,-aA,-uA,wA,tA,eA,qA,e1,e2,e4,m2,m4,dr,kb,tA,qA];exact hk _ _ ⟨rfl,b,L,g2,by simp [e4],by simp [kA,nh],by simp,by simp⟩)
   obtain ⟨e,s',⟨rfl,b,L',g1,g4,gm,g5,g6⟩,na⟩:=kq;refine ⟨b,L',g1,wC qC rfl rfl (na _ _ ?_)⟩;generalize L'.map iA=ml at *
   simp [qC,-J,-y6,-y5,y0,-aA,-uA,wA,tA,eA,qA,g4,gm,g5,g6,tA]
  obtain ⟨b,L',g1,g2⟩:=key;exact ⟨b,L',g2,g1⟩
def nilF (x:rA):Bool:=match x.v with
 | .sl b _=>b
 | _=>false
def frzT (t:QA) (w:rA × rA):QA:={ t with sn:=nilF w.1,mn:=nilF w.2 }
def NS (L:List QA) (W:List (rA × rA)):List QA:=List.zipWith frzT L W
theorem KM:∀ {L:List QA} {W:List (rA × rA)},W.length=L.length->UA (NS L W)=UA L
 | [],_,_=>by simp [NS,UA]
 | t :: L,[],h=>by simp at h
 | t :: L,w :: W,h=>by
  have:=KM (L:=L) (W:=W) (by simpa using h);unfold NS UA at this ⊢;rw [List.zipWith_cons_cons,yk,yk,this];rfl
theorem MD.frz1 {mem:Nat->Nat->Option (List rA)} {nx:Nat} {x:rA} {z:Nat} {l:List (List AV)} (h:MD mem nx x z l) (he:AA z l=true) (hf:jD l=true) {s:pA} (hs:s.mem=mem):AV.frz1 s x.v=.sl (nilF x) l:=by
 rcases h with ⟨rfl,b,rfl⟩ | ⟨t,n,rfl,h1,h2,h3⟩
 ·rfl
 ·simp only [AV.frz1,nilF,hs,h3,J,LB he hf]
theorem cells_frz {mem:Nat->Nat->Option (List rA)} {nx:Nat} {t:QA} {w:rA × rA} (c5:MD mem nx w.1 2 (t.syms.map jA)) (c6:MD mem nx w.2 13 (t.mems.map fA)) {s:pA} (hs:s.mem=mem):((OB t w).map (·.v)).map (AV.frz1 s)=iA (frzT t w):=by
 have h5:=c5.frz1 (pD _) (LD _) hs;have h6:=c6.frz1 (AC _) (KD _) hs;simp only [OB,yk,yR,h5,h6];rfl
theorem raw_ty {L:List QA} {W:List (rA × rA)} (hl:W.length=L.length):lL (OA L W) 10 0 L.length=some ((d9 L W).map fun b=>b.map (·.v)):=by
 have fk:(d9 L W).length=L.length:=by unfold d9; rw [List.length_zipWith]; omega
 have da:(OA L W).length=L.length * 10:=by
  have:∀ (B:List (List rA)),(∀ b∈B,b.length=10)->B.flatten.length=B.length * 10:=by
   intro B
   induction B with
   | nil=>intro _; rfl
   | cons b B ih=>intro h; rw [yv,yb,h b (yp ..),ih fun c hc=>h c (yG _ hc),yA]; omega
  unfold OA;rw [this _ (bQ L W),fk]
 unfold lL;rw [if_pos (by omega)];congr 1;refine List.ext_getElem? fun i=>?_
 rw [yc,yc];by_cases hi:i<L.length
 ·obtain ⟨b,hb⟩:∃ b,(d9 L W)[i]?=some b:=⟨_,yg (by omega)⟩;rw [List.getElem?_range hi,hb];simp only [yt,yr];rw [show OA L W=(d9 L W).flatten from rfl,(rP (bQ L W) hb).1]
 ·rw [Y07 (by simpa using hi),Y07 (by omega)];rfl
theorem frz1_fre {s:pA} {v:AV} (h:v.free0=true):AV.frz1 s v=v:=by
 cases v <;> first | rfl | (simp [AV.free0] at h)
theorem nX.frz {L:List QA} {W:List (rA × rA)} {N0 nx:Nat} {V0:AV} {mem:Nat->Nat->Option (List rA)} (h:nX L W N0 nx V0 mem):∃ b:Bool,∀ s:pA,s.mem=mem->AV.frz0 s V0=.sl b ((NS L W).map iA):=by
 rcases h.v0 with ⟨h1,b,h2⟩ | ⟨h1,h2,h3,h4⟩
 ·refine ⟨b,fun s _=>?_⟩;subst h1;rw [h2];rfl
 ·refine ⟨false,fun s hs=>?_⟩;have pr:=raw_ty h.len;have hB:((d9 L W).map fun b=>b.map (·.v)).map (fun c=>c.map (AV.frz1 s))=(NS L W).map iA:=by
   refine List.ext_getElem? fun i=>?_
   rw [yc,yc,yc];unfold d9 NS;rw [List.getElem?_zipWith,List.getElem?_zipWith];cases ht:L[i]? with
   | none=>rfl
   | some t =>
    cases hw:W[i]? with
    | none=>rfl
    | some w =>
     obtain ⟨c5,c6⟩:=h.cell i t w ht hw;simp only [yt];rw [cells_frz c5 c6 hs]
  have df:(((NS L W).map iA).flatten.all AV.free0)=true:=by
   rw [y8];intro v hv;obtain ⟨c,hc,hvc⟩:=List.mem_flatten.1 hv;obtain ⟨t,_,rfl⟩:=yQ.1 hc;have:(iA t).all AV.free0=true:=rfl;exact y8.1 this v hvc
  rw [h2];simp only [AV.frz0,hs,h3,J];cases xy:UG (OA L W) 10 0 L.length with
  | some l =>
   simp only;unfold UG at xy;split at xy
   ·rename_i hc;injection xy with xy;unfold lL at pr;rw [if_pos hc.1] at pr;injection pr with pr;rw [<- xy,pr,<- hB];congr 1;rw [y5];refine yH fun b hb=>?_
    simp only [Function.comp];have:(b.map (·.v)).map (AV.frz1 s)=(b.map (·.v)).map id:=yH fun v hv=>by
     obtain ⟨x,hx,rfl⟩:=yQ.1 hv;have hxr:x∈OA L W:=List.mem_flatten.2 ⟨b,hb,hx⟩;exact frz1_fre (y8.1 hc.2 x hxr)
    rw [this,List.map_id]
   ·cases xy
  | none =>
   simp only;unfold jX;rw [pr,J,hB,if_pos df]
def F6 (m:fB):Prop:=m.ok/\m.dflt.lay
structure ApI (ln:Bool) (l:List RB) (L:List QA) (N0 M:Nat) (V0:AV) (s:pA):Prop where
 e1:(s.env 1).v=.sl ln (l.map tC)
 e4:(s.env 4).v=.ptr 4 1 0
 e8:(s.env 8).v=.ptr 8 M 0
 e21:(s.env 21).v=.sl ln (l.map tC)
 e22:(s.env 22).v=.int .i64 l.length
 m4:s.mem 4 1=some [⟨.sl true [],.ex⟩]
 m8:s.mem 8 M=some [⟨V0,.no⟩]
 v0:okV V0=true
 ty:∃ W,nX L W N0 s.next V0 s.mem
 nx:1<s.next/\M<s.next
theorem set_dflt (e:RB) (a:An):uA true 8 9 ((tC e).map (⟨·,.no⟩)) (.agg (dB e.mem.dflt)) a=some ((tC e).map (⟨·,.no⟩)):=by
 have h:=KN (sC [e]) (k:=0) (c:=tC e) rfl (o:=9) (z:=8) (by omega) a;rw [JX] at h;simpa [xA] using h
theorem load_dflt (e:RB):aA true 8 9 ((tC e).map (⟨·,.no⟩))=some ⟨.agg (dB e.mem.dflt),.no⟩:=by
 have h:=KP (sC [e]) (k:=0) (c:=tC e) rfl (o:=9) (z:=8) (by omega);rw [JX] at h;simpa [xA] using h
theorem ap_lp {rv:RV} {ln:Bool} {l:List RB} {B0:List QA} {N0 M:Nat} {V0:AV} (hl:l.length<=380) (hB:B0.length<=1000) (hmp:∀ e∈l,F6 e.mem) (s:pA) (L:List QA) (hL:UA L=B0) (sa:gN F6 16 L) (h:ApI ln l L N0 M V0 s) (ez:(s.env 23).v=.int .i64 0) (k:Ex->pA->Option RV)
  (ze:∀ (s':pA) (L:List QA),(dE B0 0 l).2.1=0->UA L=(dE B0 0 l).2.2->L.length=B0.length->gN F6 400 L->ApI ln l L N0 M V0 s'->k (.exit 0) s'=some rv)
  (bh:∀ s':pA,¬ (dE B0 0 l).2.1=0->(s'.env 4).v=.ptr 4 1 0->s'.mem 4 1=some [⟨.sl true [],.no⟩]->(s'.env 5).v=.int .i64 (dE B0 0 l).1->(s'.env 6).v=.int .i64 (dE B0 0 l).2.1->k .ret s'=some rv):zF sB BA eG s k=some rv:=by
 refine QE l.length (fun i s=>∃ L,ApI ln l L N0 M V0 s/\(s.env 23).v=.int .i64 i/\dE (UA L) i (l.drop i)=dE B0 0 l/\gN F6 (16 + i) L/\L.length=B0.length)
  (fun e s=>(e=.exit 0/\∃ L,(dE B0 0 l).2.1=0/\UA L=(dE B0 0 l).2.2/\L.length=B0.length/\gN F6 400 L/\ApI ln l L N0 M V0 s)\/(e=.ret/\¬ (dE B0 0 l).2.1=0/\(s.env 4).v=.ptr 4 1 0/\s.mem 4 1=some [⟨.sl true [],.no⟩]/\(s.env 5).v=.int .i64 (dE B0 0 l).1/\(s.env 6).v=.int .i64 (dE B0 0 l).2.1)) (fun i hi s k h ih hk=>?_) _ _ ⟨L,h,ez,by rw [hL]; rfl,sa,by rw [<- hL]; exact (y7 _).symm⟩ (fun e s h=>?_)
 ·obtain ⟨L,⟨e1,e4,e8,e21,e22,m4,m8,hV,⟨W,hT⟩,et,hn2⟩,ez,na,sa,da⟩:=h;obtain ⟨env,mem,nxt,obj,gh⟩:=s;dsimp only at e1 e4 e8 e21 e22 ez m4 m8 hT et hn2;refine gA ?_;by_cases ba:i<l.length
  ·have ea:(i:Int)<l.length:=by omega
   have hw:=eB (i:=i);obtain ⟨q,hq⟩:∃ q,l[i]?=some q:=⟨_,yg ba⟩;have hqm:=yD hq;have g1:(l.map tC)[i]?=some (tC q):=by rw [yc,hq]; rfl
   have jp:(tC q).length=25:=rfl;have ak:l.drop i=q :: l.drop (i + 1):=by rw [yj ba,(yh.1 hq).2]
   rw [ak,lQ,OZ] at na;have ac:=PZ sa (hmp q hqm);have xf:=cV L q;have wa:=ih ba;have ro:(tC q).take 25=tC q:=rfl;have re:=DX _ q.mem.dflt (Nat.lt_succ_self _) (hmp q hqm).2;simp only [pQ] at re;have se:=JM q.mem.dflt;have wx:=load_dflt q;have hsd:=fun a=>set_dflt q a
   have wb:aA true 25 0 ((tC q).map (⟨·,.no⟩))=some ⟨.agg (tC q),.no⟩:=rfl;have kb:((tC q).map (fun v=>(⟨v,.no⟩:rA))).length=25:=rfl;have hch:=fun (a0 a1:An) (s:pA) (hT:nX L W N0 s.next V0 s.mem) (hb:s.mem 8 M=some [⟨V0,.no⟩])=>change_h (r:=rv) (a0:=a0) (a1:=a1) (e:=q) (by decide) (by omega) ⟨sa.asc,fun t ht=>by have:=sa.len t ht; omega,fun _ _ _ _=>trivial⟩ s hT hb
   generalize rp:(tC q).map (fun v=>(⟨v,.no⟩:rA))=R3 at *
   generalize tC q=ed at *
   generalize dB q.mem.dflt=vd at *
   generalize fc:l.map tC=me at *
   have hset0:∀ (r:List rA),r.length=25->uA true 25 0 r (.agg ed) .no=some (ed.map (⟨·,.no⟩)):=fun r hr=>by
    simp only [uA,if_true];rw [if_pos ⟨jp,by omega⟩,List.take_zero,yW,yr,<- hr,List.drop_length,yz]
   have hne4:∀ n:Nat,¬ (4=10/\1=n):=fun n e=>absurd e.1 (by decide)
   simp [eG,-J,-y6,-y5,y0,-aA,-uA,wA,tA,eA,qA,e21,e22,ez,ea,↓g1,jp,ro,qA,rp,wx,se,re,hsd,wb,e8,TK,-y8];refine hch _ _ _ ?hT ?hb _ (fun s' a hTs bm=>?main)
   case hT =>
    refine hT.mono (by simp [kA]) (fun t n ht hn=>?_) (by dsimp only; omega);have mf:¬ t=10:=fun e=>by subst e; exact absurd ht (by decide)
    simp [kA,mf]
   case hb=>simp [kA,m8]
   obtain ⟨env',oa,nx',nb,mg⟩:=s';have q1:=bm.gh 1;have q4:=bm.gh 4;have q8:=bm.gh 8;have q9:=bm.gh 9;have q21:=bm.gh 21;have q22:=bm.gh 22;have q23:=bm.gh 23;simp [okV,I4,KS,e1,e4,e8,e21,e22,ez] at q1 q4 q8 q9 q21 q22 q23;have p1:(mg 1).v=.sl ln me:=by rw [q1,e1]
   have p4:(mg 4).v=.ptr 4 1 0:=by rw [q4,e4]
   have p8:(mg 8).v=.ptr 8 M 0:=by rw [q8,e8]
   have p9:(mg 9).v=.int .i64 i:=by rw [q9]
   have p21:(mg 21).v=.sl ln me:=by rw [q21,e21]
   have p22:(mg 22).v=.int .i64 l.length:=by rw [q22,e22]
   have p23:(mg 23).v=.int .i64 i:=by rw [q23,ez]
   have m4':=bm.mem 4 1 [⟨.sl true [],.ex⟩] (by dsimp only; omega) (by decide) (fun e=>absurd e.1 (by decide)) (by simp [kA,m4]) (fun x hx=>by rw [Y03] at hx; subst hx; rfl);have m8':=bm.mem 8 M [⟨V0,.no⟩] (by dsimp only; omega) (by decide) (fun e=>absurd e.1 (by decide)) (by simp [kA,m8]) (fun x hx=>by rw [Y03] at hx; subst hx; exact hV);have ay:=bm.next;dsimp only at m4' m8' hTs ay;clear q1 q4 q8 q9 q21 q22 q23 bm;by_cases je:(nC L q).1=0
   ·obtain ⟨W',tp⟩:=hTs je;rw [if_pos je] at na;simp [-J,-y6,-y5,y0,-aA,-uA,wA,tA,eA,qA,p1,p4,p8,p9,p21,p22,p23,je,hw];exact wa _ ⟨(nC L q).2,⟨by simp [p1,fc],by simp [p4],by simp [p8],by simp [p21,fc],by simp [p22],m4',m8',hV,⟨W',tp.up (by dsimp only; omega)⟩,by dsimp only; omega⟩,by simp,na,ac.up (by omega),by omega⟩
   ·rw [if_neg je] at na;rw [<- na] at hk;simp [-J,-y6,-y5,y0,-aA,-uA,wA,tA,eA,qA,p1,p4,p8,p9,p21,p22,p23,je,m4',qA];exact hk _ _ (.inr ⟨rfl,je,by simp [p4],by simp [kA],by simp,by simp⟩)
  ·have ea:¬ (i:Int)<l.length:=by omega
   have:i=l.length:=by omega
   subst this;rw [List.drop_length] at na;simp [eG,-J,-y6,-y5,y0,-aA,-uA,wA,tA,eA,qA,e22,ez];refine hk _ _ (.inl ⟨rfl,L,?_,?_,da,sa.up (by omega),by simp [e1],by simp [e4],by simp [e8],by simp [e21],by simp [e22],m4,m8,hV,⟨W,hT.up (by dsimp only; omega)⟩,by dsimp only; omega⟩)
   ·rw [<- na]; rfl
   ·rw [<- na]; rfl
 ·rcases h with ⟨rfl,L,h1,h2,h3,h4,h5⟩ | ⟨rfl,h1,h2,h3,h4,h5⟩
  ·exact ze _ _ h1 h2 h3 h4 h5
  ·exact bh _ h1 h2 h3 h4 h5
theorem EX (s:wP) (ln:Bool) (l:List RB) (hs:s.fine) (ey:s.nl=true->s.types=[]) (kc:∀ t∈s.types,(t.sn=true->t.syms=[])/\(t.mn=true->t.mems=[])/\∀ m∈t.mems,m.dflt.lay) (hl:l.length<=380) (sb:∀ e∈l,F6 e.mem):∃ (b:Bool) (L':List QA),pQ 14 [.agg (lD s),.sl ln (l.map tC)] (.tup [.agg [.sl b (L'.map iA)],.int .i64 (gC (UA s.types) l).1,.int .i64 (gC (UA s.types) l).2.1])/\UA L'=(gC (UA s.types) l).2.2:=by
 have hv:=LE (XT s hs);simp only [pQ,lD] at hv;have kb:(l.map tC).length=l.length:=y7 _;by_cases h0:EB s.types=0
 case neg =>
  refine ⟨true,[],?_,?_⟩
  ·unfold gC;rw [if_pos (by rw [DD]; exact h0),DD];refine wC sD rfl rfl ?_;simp [sD,-J,-y6,-y5,y0,-aA,-uA,wA,tA,eA,qA,AV.plain,AV.scal,tA,qA,lD,hv,h0]
  ·unfold gC;rw [if_pos (by rw [DD]; exact h0)];rfl
 have sa:gN F6 16 s.types:=bV h0 fun t ht m hm=>⟨(hs.2 t ht).1.2.2 m hm,(kc t ht).2.2 m hm⟩
 have js:=rS h0;have fk:(UA s.types).length=s.types.length:=y7 _;have lf:∀ t∈s.types,tyLay t:=fun t ht=>by
  obtain ⟨g1,g2,g3⟩:=kc t ht;have:=sa.len t ht;exact ⟨g1,g2,by omega,by omega,g3⟩
 rw [h0] at hv;have hcp:=fun (r:RV) (s1:pA) (a:An)=>copied_h (r:=r) s1 s a (by omega) ey lf
 have q:=fun (rv:RV) (N0 M:Nat) (V0:AV)=>ap_lp (rv:=rv) (ln:=ln) (B0:=UA s.types) (N0:=N0) (M:=M) (V0:=V0) hl (by omega) sb
 have nc:∀ n e T,(EB (UA s.types)=0->gC (UA s.types) l=(n,e,T))->gC (UA s.types) l=(n,e,T):=fun n e T h=>h (by rw [DD]; exact h0)
 -- what the end is like
 have mI:∀ (L':List QA),L'.length=(UA s.types).length->gN F6 400 L'->∀ b,rD sB BA 34 [.agg [.sl b (L'.map iA)]] none=some (.int .i64 (EB L'),none):=fun L' h1 h2 b=>LE (XT ⟨b,L'⟩ (fine_of (by omega) ⟨h2.asc,h2.len,fun t ht m hm=>(h2.mem t ht m hm).1⟩ (by omega) b))
 have frzOk:∀ {L:List QA} {W:List (rA × rA)},W.length=L.length->gN F6 400 L->gN F6 400 (NS L W):=fun {L W} hWL h=>by
  have h':=h.bare;rw [<- KM hWL] at h';exact h'.un
 have kq:=j3 (T:=sB) (ext:=BA) evoT_det (c:=sD.code) (by kernel_rfl) (s:=pA.init [.agg (lD s),.sl ln (l.map tC)] none) (F:=fun e s'=>e=.ret/\∃ (b:Bool) (L':List QA) (V:AV),UA L'=(gC (UA s.types) l).2.2/\(s'.env 4).v=.ptr 4 1 0/\s'.mem 4 1=some [⟨V,.no⟩]/\AV.frz0 s' V=.sl b (L'.map iA)/\(s'.env 5).v=.int .i64 (gC (UA s.types) l).1/\(s'.env 6).v=.int .i64 (gC (UA s.types) l).2.1) (fun k r hk=>by
  simp only [lD] at hcp ⊢;have hq:=q r;generalize kg:s.types.map iA=ma at *
  generalize fc:l.map tC=me at *
  simp [sD,-J,-y6,-y5,y0,-aA,-uA,wA,tA,eA,qA,AV.plain,AV.scal,tA,qA,hv,TK];refine hcp r _ _ _ (fun s' W N0 V0 hT se hg rd hN ay=>?_);obtain ⟨env',oa,nx',nb,mg⟩:=s';dsimp only at hT hg rd ay;subst hg;have hV:okV V0=true:=by
   rcases hT.v0 with ⟨_,b,rfl⟩ | ⟨_,rfl,_,_⟩ <;> rfl
  have m4:=rd 4 1 (by omega);simp [kA] at m4;simp [-J,-y6,-y5,y0,-aA,-uA,wA,tA,eA,qA,qA];refine hq N0 nx' V0 _ s.types rfl sa ⟨by simp [fc],by simp,by simp,by simp [fc],by simp [kb],by simp [kA,m4],by simp [kA],hV,⟨W,?ty⟩,?nx⟩ (by simp) _ (fun s2 L' g1 g2 g3 g4 g5=>?main) (fun s2 g1 a4 am a5 a6=>?err)
  case ty =>
   refine hT.mono (by simp [kA]) (fun t n ht hn=>?_) (by dsimp only; omega);have e8:¬ t=8:=fun e=>by subst e; exact absurd ht (by decide)
   simp [kA,e8]
  case nx=>dsimp only; omega
  case err =>
   have hr:=nc (dE (UA s.types) 0 l).1 (dE (UA s.types) 0 l).2.1 [] (fun hv=>by unfold gC; rw [if_neg (by simp [hv]),if_pos g1]);rw [hr] at hk;simp [-J,-y6,-y5,y0,-aA,-uA,wA,tA,eA,qA];exact hk _ _ ⟨rfl,true,[],.sl true [],rfl,a4,am,rfl,a5,a6⟩
  case main =>
   obtain ⟨e1,e4,e8,e21,e22,m4b,m8b,_,⟨W2,hT2⟩,n1,n2⟩:=g5;obtain ⟨env2,mem2,nx2,obj2,gh2⟩:=s2;dsimp only at e1 e4 e8 e21 e22 m4b m8b hT2 n1 n2;have hWL:=hT2.len;obtain ⟨b,hfz⟩:=hT2.frz;have hfz1:∀ env nx obj gh,AV.frz0 ⟨env,mem2,nx,obj,gh⟩ V0=.sl b ((NS L' W2).map iA):=fun _ _ _ _=>hfz _ rfl
   have hT3:nX L' W2 N0 nx2 V0 (CO mem2 4 1 [⟨V0,.no⟩]):=hT2.mono (by simp [kA]) (fun t n ht hn=>by
    have e4:¬ t=4:=fun e=>by subst e; exact absurd ht (by decide)
    simp [kA,e4]) (yf _)
   obtain ⟨b3,hfz3⟩:=hT3.frz;have fi:(NS L' W2).length=(UA s.types).length:=by
    have:=congrArg List.length (KM hWL);unfold UA at this;rw [y7,y7] at this;omega
   have dr:=mI (NS L' W2) fi (frzOk hWL g4) b;rw [<- DD,KM hWL,g2] at dr;have hbr:=KM hWL;rw [g2] at hbr;by_cases h2:EB (dE (UA s.types) 0 l).2.2=0
   ·have hr:=nc l.length 0 (dE (UA s.types) 0 l).2.2 (fun hv=>by unfold gC; rw [if_neg (by simp [hv]),if_neg (by simp [g1]),if_neg (by simp [h2])]);rw [hr] at hk;rw [h2] at dr;generalize nh:(NS L' W2).map iA=ml at *
    simp [-J,-y6,-y5,y0,-aA,-uA,wA,tA,eA,qA,AV.plain,AV.scal,e1,e4,e8,m4b,m8b,↓hfz1,dr,kb,tA,qA];exact hk _ _ ⟨rfl,b3,NS L' W2,V0,hbr,by simp [e4],by simp [kA],by rw [nh]; exact hfz3 _ rfl,by simp,by simp⟩
   ·have hr:=nc l.length (EB (dE (UA s.types) 0 l).2.2) [] (fun hv=>by unfold gC; rw [if_neg (by simp [hv]),if_neg (by simp [g1]),if_pos h2]);rw [hr] at hk;generalize nh:(NS L' W2).map iA=ml at *
    simp [-J,-y6,-y5,y0,-aA,-uA,wA,tA,eA,qA,AV.plain,AV.scal,e1,e4,e8,m4b,m8b,↓hfz1,dr,h2,kb,tA,qA];exact hk _ _ ⟨rfl,true,[],.sl true [],rfl,by simp [e4],by simp [kA],rfl,by simp,by simp⟩)
 obtain ⟨e,s',⟨rfl,b,L',V,g1,g4,gm,gf,g5,g6⟩,na⟩:=kq;refine ⟨b,L',wC sD rfl rfl (na _ _ ?_),g1⟩;generalize L'.map iA=ml at *
 simp [sD,-J,-y6,-y5,y0,-aA,-uA,wA,tA,eA,qA,g4,gm,↓gf,g5,g6,tA]
theorem QA.same_refl (t:QA):t.same t=true:=by
 unfold QA.same;simp [sM]
def A8 (m:fB):QA:=⟨0,⟨#[]⟩,0,0,0,true,[],false,[m],0,0,false⟩
def XZ (e:RB):Bool:=fewP ⟨false,[A8 e.mem]⟩&&!decide (100<IntKind.i64.wrap ((e.name.size:Int) + e.sym.name.size))
def LS (l:List RB):Bool:=!decide (20<l.length)&&l.all XZ
theorem efew_lp {rv:RV} {nl:Bool} {l:List RB} (hl:l.length<=20) (sa:∀ e∈l,e.mem.ok) (s:pA) (e0:(s.env 0).v=.sl nl (l.map tC)) (e3:(s.env 3).v=.int .i64 0) (k:Ex->pA->Option RV)
  (hk:∀ s':pA,l.all XZ=true->k (.exit 0) s'=some rv) (hr:∀ s':pA,l.all XZ=false->(s'.env 2).v=.bool false->k .ret s'=some rv):zF lA dA iF s k=some rv:=by
 refine IB l.length (fun i s=>(s.env 0).v=.sl nl (l.map tC)/\(s.env 3).v=.int .i64 i/\(l.drop i).all XZ=l.all XZ)
  (fun e s=>(e=.exit 0/\l.all XZ=true)\/(e=.ret/\l.all XZ=false/\(s.env 2).v=.bool false)) (fun i hi s k h ih hk=>?_) _ _ ⟨e0,e3,rfl⟩ (fun e s h=>?_)
 ·obtain ⟨e0,e3,hs⟩:=h;have kb:(l.map tC).length=l.length:=y7 _;refine gA ?_;by_cases ba:i<l.length
  ·have ea:(i:Int)<l.length:=by omega
   have hw:=eB (i:=i);have g1:(l.map tC)[i]?=some (tC l[i]):=by rw [yc,yg ba]; rfl
   have hm:=sa _ (yF ba);have wa:=ih ba;rw [yj ba,List.all_cons] at hs;generalize l[i]=x at *
   have hx:=r8 ⟨false,[A8 x.mem]⟩ ⟨by simp,fun t ht=>by simp at ht; subst ht; exact ⟨by simp [A8],by simp [A8],fun m ae=>by simp [A8] at ae; subst ae; exact hm⟩⟩;generalize hF:fewP ⟨false,[A8 x.mem]⟩=F at *
   simp only [wB,lD,yk,yR,iA,A8,fA] at hx;simp only [tC,fA,jA,List.cons_append,yW] at g1;have hfe:XZ x=(F&&!decide (100<IntKind.i64.wrap ((x.name.size:Int) + x.sym.name.size))):=by unfold XZ; rw [hF]
   cases F with
   | false =>
    rw [hfe,Bool.false_and,Bool.false_and] at hs;simp [iF,-J,-y6,-y5,y0,e0,e3,ea,hw,kb,g1,hx];exact hk _ _ (.inr ⟨rfl,hs.symm,by simp⟩)
   | true =>
    by_cases tw:100<IntKind.i64.wrap ((x.name.size:Int) + x.sym.name.size)
    ·rw [hfe,decide_eq_true tw,Bool.true_and,Bool.not_true,Bool.false_and] at hs;simp [iF,-J,-y6,-y5,y0,e0,e3,ea,hw,kb,g1,hx,tw];exact hk _ _ (.inr ⟨rfl,hs.symm,by simp⟩)
    ·rw [hfe,decide_eq_false tw,Bool.true_and,Bool.not_false,Bool.true_and] at hs;simp [iF,-J,-y6,-y5,y0,e0,e3,ea,hw,kb,g1,hx,tw];refine wa _ ⟨?_,?_,hs⟩
     all_goals simp [e0]
  ·have ea:¬ (i:Int)<l.length:=by omega
   rw [yn (by omega),List.all_nil] at hs;simp [iF,-J,-y6,-y5,y0,e0,e3,ea,kb];exact hk _ _ (.inl ⟨rfl,hs.symm⟩)
 ·rcases h with ⟨rfl,h⟩ | ⟨rfl,h1,h2⟩
  ·exact hk _ h
  ·exact hr _ h1 h2
theorem efew_ev (nl:Bool) (l:List RB) (hl:l.length<=9223372036854775807) (sa:∀ e∈l,e.mem.ok):wB 13 [.sl nl (l.map tC)] (.bool (LS l)):=by
 refine EA (c:=RJ) rfl rfl ?_;have h1:(l.map tC).length=l.length:=y7 _;unfold LS;by_cases h:20<l.length
 ·have h':(20:Int)<l.length:=by omega
  generalize l.map tC=ma at *
  simp [RJ,-J,-y6,-y5,y0,h1,h,h']
 ·have h':¬ (20:Int)<l.length:=by omega
  have q:=fun s=>efew_lp (rv:=(.bool (LS l),none)) (nl:=nl) (l:=l) (by omega) sa s
  have hf:LS l=l.all XZ:=by unfold LS; simp [h]
  rw [hf] at q;generalize kg:l.map tC=ma at *
  simp [RJ,-J,-y6,-y5,y0,h1,h,h'];refine q _ (by simp) (by simp) _ (fun s' h=>?_) (fun s' h e2=>?_)
  ·simp [-J,-y6,-y5,y0,h,-y8]
  ·simp [-J,-y6,-y5,y0,h,e2,-y8]
theorem apRes_ok {MP:fB->Prop} {B:List QA} {l:List RB} (hl:l.length<=380) (hB:gN MP 16 B) (hm:∀ e∈l,MP e.mem):gN MP 400 (gC B l).2.2:=by
 have run:∀ (l:List RB) (n i:Nat) (B:List QA),gN MP n B->(∀ e∈l,MP e.mem)->gN MP (n + l.length) (dE B i l).2.2:=by
  intro l
  induction l with
  | nil=>intro n i B h _; exact h
  | cons e r ih =>
   intro n i B h hm;rw [lQ];split
   ·have:=ih (n + 1) (i + 1) _ (PZ h (hm e (yp ..))) fun e he=>hm e (yG _ he)
    rw [yA,Nat.add_comm r.length 1,<- Nat.add_assoc];exact this
   ·exact ⟨fun _ h=>by simp at h,fun _ h=>by simp at h,fun _ h=>by simp at h⟩
 have nil:gN MP 400 []:=⟨fun _ h=>by simp at h,fun _ h=>by simp at h,fun _ h=>by simp at h⟩;unfold gC;split
 ·exact nil
 split
 ·exact nil
 split
 ·exact nil
 ·exact (run l 16 0 B hB hm).up (by omega)
theorem apRes_bad {B:List QA} {l:List RB} (h:¬ EB B=0):(gC B l).2.2=[]:=by
 unfold gC;rw [if_pos h]
def xV (s:wP):Prop:=(s.nl=true->s.types=[])/\∀ t∈s.types,(t.sn=true->t.syms=[])/\(t.mn=true->t.mems=[])/\∀ m∈t.mems,m.dflt.lay
theorem gN.nil {MP:fB->Prop} {n:Nat}:gN MP n []:=⟨fun _ h=>by simp at h,fun _ h=>by simp at h,fun _ h=>by simp at h⟩
theorem K1 (s:wP) (l:List RB) (hs:s.fine) (kc:xV s) (hl:l.length<=380) (sb:∀ e∈l,F6 e.mem):gN F6 400 (gC (UA s.types) l).2.2:=by
 by_cases h:EB (UA s.types)=0
 ·rw [DD] at h;exact apRes_ok hl (bV h fun t ht m hm=>⟨(hs.2 t ht).1.2.2 m hm,(kc.2 t ht).2.2 m hm⟩).bare sb
 ·rw [apRes_bad h];exact gN.nil
theorem J1 (B:List QA) (l:List RB):(gC B l).2.2.length<=B.length:=by
 have run:∀ (l:List RB) (i:Nat) (B:List QA),(dE B i l).2.2.length<=B.length:=by
  intro l
  induction l with
  | nil=>intro i B; exact yf _
  | cons e r ih =>
   intro i B;rw [lQ];split
   ·exact yB (ih _ _) (Nat.le_of_eq (cV _ _))
   ·exact Nat.zero_le _
 have:=run l 0 B;unfold gC
 repeat' split
 all_goals first | exact Nat.zero_le _ | (dsimp only; omega)
structure DhI (a b:wP) (L:List RB) (s:pA):Prop where
 e2:(s.env 2).v=.ptr 2 1 0
 e3:(s.env 3).v=.ptr 3 1 0
 m2:s.mem 2 1=some [⟨.sl a.nl (a.types.map iA),.no⟩]
 m3:s.mem 3 1=some [⟨.sl b.nl (b.types.map iA),.no⟩]
 e8:OutB L (s.env 8)
theorem rdiff_lp {rv:RV} {a b:wP} (ha:a.types.length<=100) (og:a.types.length=b.types.length) (jw:∀ t∈a.types,XJ t) (ft:∀ t∈b.types,XJ t) (s:pA) (h:DhI a b [] s) (e_c:(s.env 9).v=.int .i64 0) (k:Ex->pA->Option RV)
  (hk:ED a.types b.types=true->∀ s',DhI a b (DJ 0 a.types b.types) s'->k (.exit 0) s'=some rv)
  (hr:ED a.types b.types=false->∀ s':pA,(s'.env 4).v=.sl true []->(s'.env 5).v=.int .i64 1->k .ret s'=some rv):zF lA dA AE s k=some rv:=by
 refine IB a.types.length (fun i s=>(s.env 9).v=.int .i64 i/\ED (a.types.drop i) (b.types.drop i)=ED a.types b.types/\∃ L,DhI a b L s/\L.length<=244 * i/\L++DJ i (a.types.drop i) (b.types.drop i)=DJ 0 a.types b.types) (fun e s=>(e=.exit 0/\ED a.types b.types=true/\DhI a b (DJ 0 a.types b.types) s)\/(e=.ret/\ED a.types b.types=false/\(s.env 4).v=.sl true []/\(s.env 5).v=.int .i64 1)) (fun i hi s k h ih hk=>?_) _ _ ⟨e_c,rfl,[],h,by simp,by simp⟩ (fun e s h=>by
   rcases h with ⟨rfl,h1,h2⟩ | ⟨rfl,h1,h2,h3⟩
   ·exact hk h1 _ h2
   ·exact hr h1 _ h2 h3)
 obtain ⟨e_c,hkd,L,hI,hn,ni⟩:=h;obtain ⟨env,mem,nx,obj,gh⟩:=s;obtain ⟨e2,e3,m2,m3,e8,a8⟩:=hI;dsimp only at e_c e2 e3 m2 m3 e8 a8;refine gA ?_;have kb:(a.types.map iA).length=a.types.length:=y7 _;have nh:(b.types.map iA).length=b.types.length:=y7 _;by_cases ba:i<a.types.length
 ·have ea:(i:Int)<a.types.length:=by omega
  have hw:=eB (i:=i);have ne:i<b.types.length:=by omega
  have hx:=yF ba;have hy:=yF ne;have g1:(a.types.map iA)[i]?=some (iA a.types[i]):=by rw [yc,yg ba]; rfl
  have g2:(b.types.map iA)[i]?=some (iA b.types[i]):=by rw [yc,yg ne]; rfl
  rw [yj ba,yj ne,DJ] at ni;rw [yj ba,yj ne,ED] at hkd;obtain ⟨x1,x2,x3,x4⟩:=jw _ hx;obtain ⟨y1,y2,y3,y4⟩:=ft _ hy;have hd:=K7 i a.types[i] b.types[i] x1 y1 x2 y2 x3;have pg:=FX i a.types[i] b.types[i] x1 y1 x2 y2;generalize a.types[i]=x at *
  generalize b.types[i]=y at *
  simp only [wB,wH,iA] at hd;simp only [iA] at g1 g2;generalize AS i x y=M at *
  have ga:RA 272 (L.length + M.length)=true:=by rw [sA]; omega
  have gb:=sC L;have jm:=sC M;have wb:(L.map tC).length=L.length:=y7 _;have xx:(M.map tC).length=M.length:=y7 _;have wa:=ih ba;have fc:(M.map tC).isEmpty=M.isEmpty:=by cases M <;> rfl
  simp only [wH] at e8;generalize kg:a.types.map iA=ma at *
  generalize ud:b.types.map iA=mb at *
  by_cases ck:x.kind=y.kind
  ·have hkd':ED (a.types.drop (i + 1)) (b.types.drop (i + 1))=ED a.types b.types:=by simpa [ck] using hkd
   rw [ck] at hd g1;by_cases h0:L=[]
   ·subst h0;have ga:RA 272 M.length=true:=by rw [sA]; omega
    simp [AE,-J,-y6,-y5,y0,iB,e_c,e2,e3,m2,m3,e8,ea,hw,kb,nh,g1,g2,hd,ga,jm,xx,fc];refine wa _ ⟨by simp,hkd',M,⟨by simp [e2],by simp [e3],by simp [m2,kg],by simp [m3,ud],by simp [wH],.inr ⟨60,by simp⟩⟩,by omega,ni⟩
   ·obtain ⟨kk,a8⟩:=a8.resolve_left h0;have he:L.isEmpty=false:=by cases L with | nil=>exact absurd rfl h0 | cons=>rfl
    rw [he] at e8;simp [AE,-J,-y6,-y5,y0,iB,e_c,e2,e3,m2,m3,e8,a8,ea,hw,kb,nh,wb,g1,g2,hd,ga,gb,jm,xx,fc];refine wa _ ⟨by simp,hkd',L++M,⟨by simp [e2],by simp [e3],by simp [m2,kg],by simp [m3,ud],by simp [wH,h0],.inr ⟨60,by simp⟩⟩,by rw [yb]; omega,by rw [yo]; exact ni⟩
  ·simp [AE,-J,-y6,-y5,y0,ck,e_c,e2,e3,m2,m3,ea,hw,kb,nh,g1,g2];exact hk _ _ (.inr ⟨rfl,by rw [<- hkd]; simp [ck],by simp,by simp⟩)
 ·have ea:¬ (i:Int)<a.types.length:=by omega
  rw [yn (by omega),yn (by omega)] at ni hkd;rw [DJ,yz] at ni
  ·subst ni;simp [AE,-J,-y6,-y5,y0,e_c,e2,m2,kb,ea];exact hk _ _ (.inl ⟨rfl,hkd.symm,by simp [e2],by simp [e3],m2,m3,by simpa using e8,by simpa using a8⟩)
  ·intro x l y m h;cases h
theorem rdiff_ev (a b:wP) (ha:a.fine) (hb:b.fine) (jw:EB a.types=0->a.types.length<=100/\∀ t∈a.types,XJ t) (ft:EB b.types=0->∀ t∈b.types,XJ t):wB 18 [.agg (lD a),.agg (lD b)] (DH a b):=by
 have va:=xQ a ha;have vb:=xQ b hb;simp only [wB,lD] at va vb;refine EA (c:=TF) rfl rfl ?_;have kb:(a.types.map iA).length=a.types.length:=y7 _;have nh:(b.types.map iA).length=b.types.length:=y7 _;by_cases c1:EB a.types=0
 ·by_cases c2:EB b.types=0
  ·obtain ⟨l1,l2⟩:=jw c1;have l3:=ft c2;rw [c1] at va;rw [c2] at vb;by_cases c4:a.types.length=b.types.length
   ·have io:=fun rv:RV=>@rdiff_lp rv a b l1 c4 l2 l3
    simp [TF,-J,-y6,-y5,y0,lD,va,vb,kb,nh,c4];refine io _ _ ⟨by simp,by simp,by simp,by simp,by simp [wH],.inl rfl⟩ (by simp) _ (fun c3 s' h'=>?_) (fun c3 s' a1 a2=>?_)
    ·have e8:=h'.e8.1;simp [-J,-y6,-y5,y0,e8,DH,c1,c2,c3,wH]
    ·simp [-J,-y6,-y5,y0,a1,a2,DH,c1,c2,c3]
   ·have c4':¬ (a.types.length:Int)=b.types.length:=by omega
    simp [TF,-J,-y6,-y5,y0,lD,va,vb,kb,nh,c4',DH,c1,c2,ER _ _ c4]
  ·rw [c1] at va;simp [TF,-J,-y6,-y5,y0,lD,va,vb,c2,DH,c1]
 ·simp [TF,-J,-y6,-y5,y0,lD,va,c1,DH]
theorem same_lp {rv:RV} {D:List RB} {bn:Bool} (hl:D.length<=100000) (sa:∀ e∈D,e.mem.ok) (s:pA) (e0:(s.env 0).v=.sl bn (D.map tC)) (e1:(s.env 1).v=.sl bn (D.map tC)) (e5:(s.env 5).v=.int .i64 0) (k:Ex->pA->Option RV)
  (hk:∀ s',k (.exit 0) s'=some rv):zF lA dA nH s k=some rv:=by
 refine IB D.length (fun i s=>(s.env 0).v=.sl bn (D.map tC)/\(s.env 1).v=.sl bn (D.map tC)/\(s.env 5).v=.int .i64 i) (fun e s=>e=.exit 0) (fun i hi s k h ih hk=>?_) _ _ ⟨e0,e1,e5⟩ (fun e s h=>by subst h; exact hk _);obtain ⟨e0,e1,e5⟩:=h;have kb:(D.map tC).length=D.length:=y7 _;refine gA ?_;by_cases ba:i<D.length
 ·have ea:(i:Int)<D.length:=by omega
  have hw:=eB (i:=i);have hx:=yF ba;have g1:(D.map tC)[i]?=some (tC D[i]):=by rw [yc,yg ba]; rfl
  have hs:=M6 D[i].mem D[i].mem (sa _ hx);rw [fB.same_refl] at hs;have wa:=ih ba;generalize D[i]=x at *
  generalize kg:D.map tC=ma at *
  simp only [wB,fA] at hs;simp only [tC,fA,jA,List.cons_append,yW] at g1;simp [nH,-J,-y6,-y5,y0,e0,e1,e5,ea,hw,kb,g1,hs];refine wa _ ⟨?_,?_,?_⟩
  all_goals simp [e0,e1]
 ·have ea:¬ (i:Int)<D.length:=by omega
  simp [nH,-J,-y6,-y5,y0,e0,e5,ea,kb];exact hk _ _ rfl
theorem same_ev23 (D:List RB) (hl:D.length<=100000) (sa:∀ e∈D,e.mem.ok):wB 19 [wH D,wH D] (.bool true):=by
 refine EA (c:=fK) rfl rfl ?_;have kb:(D.map tC).length=D.length:=y7 _;simp only [wH];simp [fK,-J,-y6,-y5,y0,kb];refine same_lp (bn:=D.isEmpty) hl sa _ (by simp) (by simp) (by simp) _ (fun s'=>?_);simp [-J,-y6,-y5,y0]
theorem good_syms {t:QA} (h:zD t=true):t.syms.length<=16:=by
 unfold zD at h;simp only [ye,decide_eq_true_eq] at h;obtain ⟨_,h2,h3⟩:=h;by_cases c4:t.kind=4
 ·simp [GO,c4,CP] at h2;omega
 ·have:t.left.syms=t.syms:=by
   unfold QA.left
   repeat' split
   all_goals first | rfl | exact absurd (by assumption) c4
  have hz:t.left.syms=xD.syms:=by
   simp only [QA.same,ye,decide_eq_true_eq] at h3;exact h3.1.2
  rw [<- this,hz];simp [xD]
theorem n9:∀ (l m:List QA) (i:Nat),(∀ t∈m,XJ t)->(∀ e∈DJ i l m,e.mem.ok)/\(m.length<=100->(∀ t∈l,XJ t)->(DJ i l m).length<=244 * m.length)
 | [],m,i,_=>by simp [DJ]
 | x :: l,[],i,_=>by simp [DJ]
 | x :: l,y :: m,i,h=>by
  obtain ⟨h1,h2⟩:=n9 l m (i + 1) (fun t ht=>h t (yG _ ht));obtain ⟨y1,y2,y3,y4⟩:=h y (yp ..);refine ⟨fun e he=>?_,fun hm hl=>?_⟩
  ·rw [DJ,yq] at he;rcases he with he | he
   ·have hz:fB.zero.ok:=by simp [fB.ok,fB.zero,Vl.zero,Vl.ok,Vl.oks]; decide
    simp only [AS,tW,yq] at he;rcases he with ((he | he | he | he) | he | he | he | he | he | he)
    ·split at he <;> simp at he; subst he; exact hz
    ·split at he <;> simp at he; subst he; exact hz
    ·split at he <;> simp at he; subst he; exact hz
    ·split at he <;> simp at he; subst he; exact hz
    ·simp only [IL,yV] at he;obtain ⟨m,_,he⟩:=he;split at he <;> simp at he; subst he; exact hz
    ·simp only [WL,yV] at he;obtain ⟨m,hm,he⟩:=he;unfold SM at he;split at he
     ·split at he <;> simp at he; subst he; exact y3 m hm
     ·simp at he
    ·simp only [QL,yV] at he;obtain ⟨m,hm,he⟩:=he;split at he <;> simp at he; subst he; exact y3 m hm
    ·simp only [EL,yV] at he;obtain ⟨m,_,he⟩:=he;split at he <;> simp at he; subst he; exact hz
    ·simp only [PL,yV] at he;obtain ⟨m,hm,he⟩:=he;unfold sN at he;split at he
     ·split at he <;> simp at he; subst he; exact hz
     ·simp at he
    ·simp only [OL,yV] at he;obtain ⟨m,hm,he⟩:=he;split at he <;> simp at he; subst he; exact hz
   ·exact h1 e he
  ·rw [DJ,yb];obtain ⟨x1,x2,_,_⟩:=hl x (yp ..);have:=FX i x y x1 y1 x2 y2;have:=h2 (by simp at hm; omega) (fun t ht=>hl t (yG _ ht));simp only [yA];omega
theorem GT {s:wP} (hs:s.fine) (hv:EB s.types=0) (hl:∀ t∈s.types,∀ m∈t.mems,m.dflt.lay):∀ t∈s.types,XJ t:=fun t ht=>by
 obtain ⟨j,hj,rfl⟩:=List.mem_iff_getElem.1 ht;have hg:=(w6 (O3 hv j hj)).1;have h1:=good_few hg;have h2:=good_syms hg;exact ⟨by omega,by omega,(hs.2 _ ht).1.2.2,hl _ ht⟩
section
open Go Go.RowKit Go.ChangeShapes Go.WideShapes
theorem XN {H:Type} {P:Program} {m:Nat}:∀ {ts us:List TypeId} {ds gs:List (DataW H)},m∈DataW.weightsEach P ts ds->ts.length=ds.length->m∈DataW.weightsEach P (ts++us) (ds++gs)
 | [],_,[],_,h,_=>by simp [DataW.weightsEach] at h
 | [],_,_ :: _,_,_,h=>by simp at h
 | _ :: _,_,[],_,_,h=>by simp at h
 | t :: ts,us,d :: ds,gs,h,hl=>by
  simp only [DataW.weightsEach,yq,List.cons_append] at h ⊢;rcases h with h | h
  ·exact .inl h
  ·exact .inr (XN h (by simpa using hl))
theorem IR {α:Type} {P:List AV->Prop} {f:α->List AV} {p:α->Prop} (h:∀ x,P x->∃ o,x=f o/\p o):∀ els:List (List AV),(∀ x∈els,P x)->∃ L:List α,els=L.map f/\∀ o∈L,p o
 | [],_=>⟨[],rfl,fun _ h=>by cases h⟩
 | x :: r,hx=>by
  obtain ⟨L,h1,h2⟩:=IR h r fun y hy=>hx y (yG _ hy)
  obtain ⟨o,h3,h4⟩:=h x (hx x yp);refine ⟨o :: L,by rw [h1,h3]; rfl,fun y hy=>?_⟩;rcases yw.1 hy with rfl | hy
  ·exact h4
  ·exact h2 y hy
theorem reachB:reachBytes=140737488351232:=rfl
def schTs:List TypeId:=[24,22,68,65,50,66,48,46,43,44,102,3,2,4,9]
theorem bytesSym:Tryz.prog.bytesOf 50=24:=by kernel_rfl
theorem bytesMem:16<=Tryz.prog.bytesOf 48:=of_decide_eq_true (by kernel_rfl)
theorem i64_of {n:Int} (h:(Lit.int .i64 n).wf=true):i64R n:=by
 simp only [Lit.wf,ye,decide_eq_true_eq] at h;have h1:IntKind.i64.min=-9223372036854775808:=rfl;have h2:IntKind.i64.max=9223372036854775807:=rfl;exact ⟨by omega,by omega⟩
section
variable {n:Nat} {a:List AV}
include n a
theorem uK (h:OH Tryz.prog n 3 a):∃ x,a=[.int .i64 x]/\i64R x:=by
 cases n with
 | zero=>exact h.elim
 | succ n =>
  simp only [OH,Tryz.underlying3] at h;obtain ⟨x,rfl,hx⟩:=h;exact ⟨x,rfl,i64_of hx⟩
theorem LT (h:OH Tryz.prog n 2 a):∃ x,a=[.int .i64 x]/\i64R x:=by
 cases n with
 | zero=>exact h.elim
 | succ n =>
  simp only [OH,Tryz.underlying2] at h;obtain ⟨x,rfl,hx⟩:=h;exact ⟨x,rfl,i64_of hx⟩
theorem E7 (h:OH Tryz.prog n 4 a):∃ x,a=[.bool x]:=by
 cases n with
 | zero=>exact h.elim
 | succ n =>
  simp only [OH,Tryz.underlying4] at h;exact h
theorem U3 (h:OH Tryz.prog n 9 a):∃ x,a=[.str x]/\x.size<=9223372036854775807:=by
 cases n with
 | zero=>exact h.elim
 | succ n =>
  simp only [OH,Tryz.underlying9] at h;exact h
theorem tyRaw (h:OH Tryz.prog n 102 a):∃ r:Raw,a=BH r/\True:=by
 cases n with
 | zero=>exact h.elim
 | succ n =>
  simp only [OH,Tryz.underlying102,uM] at h;obtain ⟨_,_,rfl,_,h1,_,_,rfl,_,h2,rfl⟩:=h;obtain ⟨x1,rfl,_⟩:=uK h1;obtain ⟨x2,rfl,_⟩:=U3 h2;exact ⟨⟨x1,x2⟩,rfl,trivial⟩
end
theorem bytesRaw:Tryz.prog.bytesOf 102=24:=by kernel_rfl
theorem bytesVal:Tryz.prog.bytesOf 46=120:=by kernel_rfl
theorem tyRaws {n:Nat} {a:List AV} (h:OH Tryz.prog n 44 a):∃ nl,∃ l:List Raw,a=[AV.sl nl (l.map BH)]/\l.length * 24<=reachBytes/\(nl=true->l=[]):=by
 cases n with
 | zero=>exact h.elim
 | succ n =>
  simp only [OH,Tryz.underlying44,bytesRaw] at h;obtain ⟨nl,els,rfl,_,h2,h3,h4⟩:=h;obtain ⟨L,rfl,_⟩:=IR (P:=fun x=>OH Tryz.prog n 102 x) (fun x hx=>tyRaw hx) els (fun x hx=>(h4 x hx).2);exact ⟨nl,L,rfl,by simpa using h2,fun e=>by simpa using h3 e⟩
theorem tyVal:∀ (n:Nat) {a:List AV},OH Tryz.prog n 46 a->∃ v:Vl,a=dB v/\v.ok/\v.lay
 | 0,_,h=>h.elim
 | n + 1,a,h=>by
  simp only [OH,Tryz.underlying46,uM] at h;obtain ⟨_,_,rfl,_,h1,_,_,rfl,_,h2,_,_,rfl,_,h3,_,_,rfl,_,h4,_,_,rfl,_,h5,_,_,rfl,_,h6,_,_,rfl,_,h7,_,_,rfl,_,h8,rfl⟩:=h;obtain ⟨x1,rfl,_⟩:=uK h1;obtain ⟨x2,rfl⟩:=E7 h2;obtain ⟨x3,rfl,u3⟩:=LT h3;obtain ⟨x4,rfl,u4⟩:=U3 h4;obtain ⟨x5,rfl,_⟩:=uK h5;obtain ⟨rn,rs,rfl,lr,nr⟩:=tyRaws h8;have vals:∀ {a:List AV},OH Tryz.prog n 43 a->∃ nl,∃ l:List Vl,a=[.sl nl (l.map dB)]/\l.length * 120<=reachBytes/\(nl=true->l=[])/\∀ v∈l,v.ok/\v.lay:=fun {a} h=>by
   cases n with
   | zero=>exact h.elim
   | succ m =>
    simp only [OH,Tryz.underlying43,bytesVal] at h;obtain ⟨nl,els,rfl,_,h2,h3,h4⟩:=h;obtain ⟨L,rfl,hL⟩:=IR (P:=fun x=>OH Tryz.prog m 46 x) (fun x hx=>tyVal m hx) els (fun x hx=>(h4 x hx).2);exact ⟨nl,L,rfl,by simpa using h2,(fun e=>by simpa using h3 e),hL⟩
  obtain ⟨kn,ks,rfl,lk,nk,hk⟩:=vals h6;obtain ⟨xn,xs,rfl,lx,nx,hx⟩:=vals h7;have hr:=reachB;rw [hr] at lk lx lr;refine ⟨.mk x1 x2 x3 x4 x5 kn ks xn xs rn rs,?_,?_,?_⟩
  ·rw [WB]; rfl
  ·rw [Vl.ok_def];exact ⟨(by show ks.length<=_; omega),(by show xs.length<=_; omega),(by show rs.length<=_; omega),u4,fun v hv=>(hk v hv).1,fun v hv=>(hx v hv).1⟩
  ·rw [Vl.lay_def];exact ⟨nk,nx,nr,lk,lx,lr,fun v hv=>(hk v hv).2,fun v hv=>(hx v hv).2⟩
section
variable {n:Nat} {a:List AV}
include n a
theorem tySym (h:OH Tryz.prog n 50 a):∃ r:LC,a=jA r/\r.name.size<=9223372036854775807:=by
 cases n with
 | zero=>exact h.elim
 | succ n =>
  simp only [OH,Tryz.underlying50,uM] at h;obtain ⟨_,_,rfl,_,h1,_,_,rfl,_,h2,rfl⟩:=h;obtain ⟨x1,rfl,_⟩:=uK h1;obtain ⟨x2,rfl,u2⟩:=U3 h2;exact ⟨⟨x1,x2⟩,rfl,u2⟩
theorem tyMem (h:OH Tryz.prog n 48 a):∃ m:fB,a=fA m/\m.ok/\m.dflt.lay:=by
 cases n with
 | zero=>exact h.elim
 | succ n =>
  simp only [OH,Tryz.underlying48,uM] at h;obtain ⟨_,_,rfl,_,h1,_,_,rfl,_,h2,_,_,rfl,_,h3,_,_,rfl,_,h4,_,_,rfl,_,h5,_,_,rfl,_,h6,rfl⟩:=h;obtain ⟨x1,rfl,_⟩:=uK h1;obtain ⟨x2,rfl,u2⟩:=U3 h2;obtain ⟨x3,rfl,_⟩:=uK h3;obtain ⟨x4,rfl⟩:=E7 h4;obtain ⟨x5,rfl⟩:=E7 h5;obtain ⟨v,rfl,h6,h7⟩:=tyVal _ h6;exact ⟨⟨x1,x2,x3,x4,x5,v⟩,by rw [WB]; rfl,⟨h6,u2⟩,h7⟩
theorem tySyms (h:OH Tryz.prog n 65 a):∃ nl,∃ l:List LC,a=[AV.sl nl (l.map jA)]/\l.length * 24<=reachBytes/\(nl=true->l=[]):=by
 cases n with
 | zero=>exact h.elim
 | succ m =>
  simp only [OH,Tryz.underlying65,bytesSym] at h;obtain ⟨nl,els,e,_,h2,h3,h4⟩:=h;obtain ⟨L,rfl,_⟩:=IR (P:=fun x=>OH Tryz.prog m 50 x) (fun x hx=>tySym hx) els (fun x hx=>(h4 x hx).2);exact ⟨nl,L,e,by simpa using h2,fun e=>by simpa using h3 e⟩
theorem tyMems (h:OH Tryz.prog n 66 a):∃ nl,∃ l:List fB,a=[AV.sl nl (l.map fA)]/\l.length * 16<=reachBytes/\(nl=true->l=[])/\∀ m∈l,m.ok/\m.dflt.lay:=by
 cases n with
 | zero=>exact h.elim
 | succ m =>
  simp only [OH,Tryz.underlying66] at h;obtain ⟨nl,els,e,_,h2,h3,h4⟩:=h;obtain ⟨L,rfl,hL⟩:=IR (P:=fun x=>OH Tryz.prog m 48 x) (fun x hx=>tyMem hx) els (fun x hx=>(h4 x hx).2);refine ⟨nl,L,e,?_,fun e=>by simpa using h3 e,hL⟩;have:=Nat.mul_le_mul_left L.length bytesMem;simp only [y7] at h2;omega
theorem tyTyp (h:OH Tryz.prog n 68 a):∃ t:QA,a=iA t/\t.fine/\(t.sn=true->t.syms=[])/\(t.mn=true->t.mems=[])/\∀ m∈t.mems,m.dflt.lay:=by
 cases n with
 | zero=>exact h.elim
 | succ n =>
  simp only [OH,Tryz.underlying68,uM] at h;obtain ⟨_,_,rfl,_,h1,_,_,rfl,_,h2,_,_,rfl,_,h3,_,_,rfl,_,h4,_,_,rfl,_,h5,_,_,rfl,_,h6,_,_,rfl,_,h7,_,_,rfl,_,h8,_,_,rfl,_,h9,_,_,rfl,_,sw,rfl⟩:=h;obtain ⟨x1,rfl,_⟩:=uK h1;obtain ⟨x2,rfl,u2⟩:=U3 h2;obtain ⟨x3,rfl,q3⟩:=LT h3;obtain ⟨x4,rfl,q4⟩:=LT h4;obtain ⟨x5,rfl,_⟩:=uK h5;obtain ⟨x8,rfl,_⟩:=uK h8;obtain ⟨x9,rfl,_⟩:=uK h9;obtain ⟨x10,rfl⟩:=E7 sw;obtain ⟨sn,sy,rfl,l6,n6⟩:=tySyms h6;obtain ⟨mn,me,rfl,l7,n7,hm⟩:=tyMems h7;have hr:=reachB;refine ⟨⟨x1,x2,x3,x4,x5,sn,sy,mn,me,x8,x9,x10⟩,rfl,⟨⟨?_,?_,fun m h=>(hm m h).1⟩,?_,?_⟩,n6,n7,fun m h=>(hm m h).2⟩
  all_goals dsimp only
  all_goals omega
theorem tySch (h:OH Tryz.prog n 24 a):∃ s:wP,a=lD s/\s.fine/\(s.nl=true->s.types=[])/\∀ t∈s.types,(t.sn=true->t.syms=[])/\(t.mn=true->t.mems=[])/\∀ m∈t.mems,m.dflt.lay:=by
 cases n with
 | zero=>exact h.elim
 | succ n =>
  simp only [OH,Tryz.underlying24,uM] at h;obtain ⟨_,_,rfl,_,h1,rfl⟩:=h;cases n with
  | zero=>exact h1.elim
  | succ m =>
   simp only [OH,Tryz.underlying22] at h1;obtain ⟨nl,els,rfl,h1,_,h3,h4⟩:=h1;obtain ⟨L,rfl,hL⟩:=IR (P:=fun x=>OH Tryz.prog m 68 x) (fun x hx=>tyTyp hx) els (fun x hx=>(h4 x hx).2);exact ⟨⟨nl,L⟩,rfl,⟨by simpa [maxLen] using h1,fun t ht=>(hL t ht).1⟩,fun e=>by simpa using h3 e,fun t ht=>(hL t ht).2⟩
end
theorem schTyL {a:AV} (h:ParT Tryz.prog 24 a):∃ s:wP,a=.agg (lD s)/\s.fine/\(s.nl=true->s.types=[])/\∀ t∈s.types,(t.sn=true->t.syms=[])/\(t.mn=true->t.mems=[])/\∀ m∈t.mems,m.dflt.lay:=by
 obtain ⟨n,⟨_,c,rfl,h⟩ | ⟨hw,_⟩⟩:=h
 ·obtain ⟨s,rfl,h'⟩:=tySch h;exact ⟨s,rfl,h'⟩
 ·have rk:nL Tryz.prog 24=true:=by kernel_rfl
  rw [rk] at hw;cases hw
end
section
open Go Go.RowKit Go.ChangeShapes Go.WideShapes
def edtTs:List TypeId:=25 :: 52 :: schTs
theorem LX:edtTs.all (mP Tryz.prog edtTs)=true:=by kernel_rfl
theorem tyEdt {n:Nat} {a:List AV} (h:OH Tryz.prog n 52 a):∃ e:RB,a=tC e/\e.mem.ok/\e.mem.dflt.lay/\e.name.size<=9223372036854775807/\e.sym.name.size<=9223372036854775807:=by
 cases n with
 | zero=>exact h.elim
 | succ n =>
  simp only [OH,Tryz.underlying52,uM] at h;obtain ⟨_,_,rfl,_,h1,_,_,rfl,_,h2,_,_,rfl,_,h3,_,_,rfl,_,h4,_,_,rfl,_,h5,_,_,rfl,_,h6,_,_,rfl,_,h7,_,_,rfl,_,h8,_,_,rfl,_,h9,_,_,rfl,_,sw,_,_,rfl,_,uw,_,_,rfl,_,h12,rfl⟩:=h;obtain ⟨x1,rfl,_⟩:=uK h1;obtain ⟨x2,rfl,_⟩:=uK h2;obtain ⟨x3,rfl,_⟩:=uK h3;obtain ⟨x4,rfl,u4⟩:=U3 h4;obtain ⟨m,rfl,hm1,hm2⟩:=tyMem h5;obtain ⟨y,rfl,hy⟩:=tySym h6;obtain ⟨x7,rfl,_⟩:=LT h7;obtain ⟨x8,rfl,_⟩:=LT h8;obtain ⟨x9,rfl,_⟩:=uK h9;obtain ⟨x10,rfl⟩:=E7 sw;obtain ⟨x11,rfl,_⟩:=uK uw;obtain ⟨x12,rfl,_⟩:=uK h12;exact ⟨⟨x1,x2,x3,x4,m,y,x7,x8,x9,x10,x11,x12⟩,rfl,hm1,hm2,u4,hy⟩
theorem edsTy {a:AV} (h:ParT Tryz.prog 25 a):∃ (nl:Bool) (l:List RB),a=.sl nl (l.map tC)/\l.length<=9223372036854775807/\∀ e∈l,e.mem.ok/\e.mem.dflt.lay/\e.name.size<=9223372036854775807/\e.sym.name.size<=9223372036854775807:=by
 obtain ⟨n,⟨hw,_⟩ | ⟨_,h⟩⟩:=h
 ·have rk:nL Tryz.prog 25=false:=by kernel_rfl
  rw [rk] at hw;cases hw
 ·cases n with
  | zero=>exact h.elim
  | succ m =>
   simp only [OH,Tryz.underlying25] at h;obtain ⟨nl,els,e,h1,h2,h3,h4⟩:=h;obtain ⟨L,rfl,hL⟩:=IR (P:=fun x=>OH Tryz.prog m 52 x) (fun x hx=>tyEdt hx) els (fun x hx=>(h4 x hx).2);injection e with e;exact ⟨nl,L,e,by simpa [maxLen] using h1,hL⟩
end
section
open Go Go.RowKit Go.ChangeShapes Go.WideShapes Go.ChangeAt
end
theorem F1:∀ (i:Nat) (l m:List QA),DJ i (UA l) m=DJ i l m
 | _,[],_=>rfl
 | _,_ :: _,[]=>rfl
 | i,x :: l,y :: m=>by
  have:=F1 (i + 1) l m;unfold UA at this ⊢;rw [yk,DJ,DJ,this];rfl
theorem uW:∀ (l m:List QA),ED (UA l) m=ED l m
 | [],[]=>rfl
 | [],_ :: _=>rfl
 | _ :: _,[]=>rfl
 | x :: l,y :: m=>by
  have:=uW l m;unfold UA at this ⊢;rw [yk,ED,ED,this];rfl
theorem GX (b c:Bool) (L:List QA) (s:wP):DH ⟨b,L⟩ s=DH ⟨c,UA L⟩ s:=by
 unfold DH;simp only [F1,uW,DD]
def invA (s:wP) (l:List RB):AV :=
 if (gC (UA s.types) l).2.1=0 then DH ⟨false,(gC (UA s.types) l).2.2⟩ s else .tup [.sl true [],.int .i64 (gC (UA s.types) l).2.1]
theorem QX {s:wP} {l:List RB} {L:List QA} (hs:s.fine) (kc:xV s) (hl:l.length<=380) (sb:∀ e∈l,F6 e.mem) (h:UA L=(gC (UA s.types) l).2.2) (b:Bool):wP.fine ⟨b,L⟩/\(EB L=0->L.length<=100/\∀ t∈L,XJ t):=by
 have ho:=K1 s l hs kc hl sb;rw [<- h] at ho;have ho1:=ho.un;have da:L.length<=s.types.length:=by
  have h1:L.length=(UA L).length:=(y7 _).symm;have h2:=J1 (UA s.types) l;have h3:(UA s.types).length=s.types.length:=y7 _;rw [h] at h1;omega
 have hf:wP.fine ⟨b,L⟩:=⟨yB da hs.1,fun t ht=>by
  obtain ⟨h1,h2⟩:=ho1.len t ht;exact ⟨⟨by omega,by omega,fun m hm=>(ho1.mem t ht m hm).1⟩,by omega,by omega⟩⟩
 exact ⟨hf,fun hv=>⟨by have:=rS hv; omega,GT hf hv fun t ht m hm=>(ho1.mem t ht m hm).2⟩⟩
section
variable (s:wP) (ln:Bool) (l:List RB) (hs:s.fine) (kc:xV s)
include s ln l hs kc
theorem invert_ev (hl:l.length<=380) (sb:∀ e∈l,F6 e.mem):pQ 29 [.agg (lD s),.sl ln (l.map tC)] (invA s l):=by
 obtain ⟨b,L,a1,q1⟩:=EX s ln l hs kc.1 kc.2 hl sb;obtain ⟨hf,lg⟩:=QX hs kc hl sb q1 b;have hd:=diff_ev ⟨b,L⟩ s hf hs lg (fun h=>GT hs h fun t ht=>(kc.2 t ht).2.2);rw [GX b false,q1] at hd;refine wC IE rfl rfl ?_;unfold invA;by_cases h0:(gC (UA s.types) l).2.1=0
 ·obtain ⟨D,e,hD⟩:∃ (D:List RB) (e:Int),DH ⟨false,(gC (UA s.types) l).2.2⟩ s=.tup [wH D,.int .i64 e]:=by
   unfold DH
   repeat' split
   ·exact ⟨[],_,rfl⟩
   ·exact ⟨[],_,rfl⟩
   ·exact ⟨_,_,rfl⟩
   ·exact ⟨[],_,rfl⟩
  rw [if_pos h0,hD];rw [hD] at hd;rw [h0] at a1;simp only [pQ,lD,wH] at a1 hd ⊢;generalize l.map tC=ma at *
  generalize L.map iA=mb at *
  generalize D.map tC=mc at *
  simp [IE,-J,-y6,-y5,y0,a1,hd]
 ·rw [if_neg h0];simp only [pQ,lD] at a1 ⊢;generalize l.map tC=ma at *
  generalize L.map iA=mb at *
  simp [IE,-J,-y6,-y5,y0,a1,h0]
theorem G8 (hl:l.length<=380) (sb:∀ e∈l,F6 e.mem):cW 30 [.agg (lD s),.sl ln (l.map tC)] (invA s l):=by
 obtain ⟨b,L,a1,q1⟩:=B2 s ln l hs hl fun e he=>(sb e he).1
 obtain ⟨hf,lg⟩:=QX hs kc hl sb q1 b;have hd:=DS (LE (rdiff_ev ⟨b,L⟩ s hf hs lg (fun h=>GT hs h fun t ht=>(kc.2 t ht).2.2)));rw [GX b false,q1] at hd;refine wC pF rfl rfl ?_;unfold invA;by_cases h0:(gC (UA s.types) l).2.1=0
 ·obtain ⟨D,e,hD⟩:∃ (D:List RB) (e:Int),DH ⟨false,(gC (UA s.types) l).2.2⟩ s=.tup [wH D,.int .i64 e]:=by
   unfold DH
   repeat' split
   ·exact ⟨[],_,rfl⟩
   ·exact ⟨[],_,rfl⟩
   ·exact ⟨_,_,rfl⟩
   ·exact ⟨[],_,rfl⟩
  rw [if_pos h0,hD];rw [hD] at hd;rw [h0] at a1;simp only [cW,lD,wH] at a1 hd ⊢;generalize l.map tC=ma at *
  generalize L.map iA=mb at *
  generalize D.map tC=mc at *
  simp [pF,-J,-y6,-y5,y0,a1,hd]
 ·rw [if_neg h0];simp only [cW,lD] at a1 ⊢;generalize l.map tC=ma at *
  generalize L.map iA=mb at *
  simp [pF,-J,-y6,-y5,y0,a1,h0]
theorem bW (hl:l.length<=9223372036854775807) (sb:∀ e∈l,F6 e.mem):cW 10 [.agg (lD s),.sl ln (l.map tC)] (.bool true):=by
 have ax:=DS (ev_V TX);have hf:=DS (LE (r8 s ⟨hs.1,fun t ht=>(hs.2 t ht).1⟩));have hg:=DS (LE (efew_ev ln l hl fun e he=>(sb e he).1));simp only [cW,lD] at ax hf hg;refine wC HB rfl rfl ?_;by_cases fa:fewP s=true
 case neg=>simp [HB,-J,-y6,-y5,y0,lD,ax,hf,fa]
 by_cases fb:LS l=true
 case neg =>
  generalize l.map tC=ma at *
  simp [HB,-J,-y6,-y5,y0,lD,ax,hf,hg,fa,fb]
 have bo:l.length<=380:=by
  unfold LS at fb;simp only [ye,Bool.not_eq_true',decide_eq_false_iff_not] at fb;omega
 have a1:=DS (invert_ev s ln l hs kc bo sb);have a2:=G8 s ln l hs kc bo sb;obtain ⟨D,e,hd,hD,sa⟩:∃ (D:List RB) (e:Int),invA s l=.tup [wH D,.int .i64 e]/\D.length<=100000/\∀ x∈D,x.mem.ok:=by
  unfold invA;by_cases h0:(gC (UA s.types) l).2.1=0
  ·rw [if_pos h0];have hbb:UA (gC (UA s.types) l).2.2=(gC (UA s.types) l).2.2:=by
    obtain ⟨b,L,_,q1⟩:=EX s ln l hs kc.1 kc.2 bo sb;rw [<- q1];unfold UA;rw [y5];rfl
   obtain ⟨hf',lg⟩:=QX hs kc bo sb hbb false;unfold DH;by_cases c1:EB (gC (UA s.types) l).2.2=0
   ·by_cases c2:EB s.types=0
    ·by_cases c3:ED (gC (UA s.types) l).2.2 s.types=true
     ·have ft:=GT hs c2 fun t ht=>(kc.2 t ht).2.2
      obtain ⟨q1,q2⟩:=n9 (gC (UA s.types) l).2.2 s.types 0 ft;have hl:=valid_len c2;exact ⟨DJ 0 (gC (UA s.types) l).2.2 s.types,0,by simp [c1,c2,c3],by have:=q2 (by omega) (lg c1).2; omega,q1⟩
     ·exact ⟨[],1,by simp [c1,c2,c3,wH],by simp,by simp⟩
    ·exact ⟨[],EB s.types,by simp [c1,c2,wH],by simp,by simp⟩
   ·exact ⟨[],EB (gC (UA s.types) l).2.2,by simp [c1,wH],by simp,by simp⟩
  ·rw [if_neg h0];exact ⟨[],_,rfl,by simp,by simp⟩
 have hs:=DS (LE (same_ev23 D hD sa));rw [hd] at a1 a2;simp only [cW,lD,wH] at a1 a2 hs;generalize l.map tC=ma at *
 generalize D.map tC=mb at *
 simp [HB,-J,-y6,-y5,y0,lD,ax,hf,hg,fa,fb,a1,a2,hs]
end
section
open Go Go.RowKit Go.ChangeShapes Go.WideShapes Go.ChangeAt
set_option maxRecDepth 100000 in
theorem HS (os:Os) (args:Array Value):laidMetH Tryz.prog Rows.evolveInvertRow.laid ((World.doorLaid Tryz.prog 4000 os).forCall (fun _ _=>0) ⟨#[],args,[]⟩).memory :=
 laidMetH_of_parts3 (fuel:=80) (laidMet_of_run' 80 (by kernel_rfl) (by kernel_rfl)) (by kernel_rfl) (by kernel_rfl)
set_option maxRecDepth 100000 in
theorem mQ (os:Os) (started:os.Started) (H:Type) (enc:TypeId × Value->H) :
  ReturnsInHanded {} Tryz.checked os 10 .any (fun w args=>(Rows.evolveInvertSpec.pre enc Tryz.prog Tryz.f10 Rows.evolveInvertRow.domain false w args/\laidMetH Tryz.prog Rows.evolveInvertRow.laid w)/\sizedMet enc Tryz.prog Tryz.f10 (OpenSpec.ofChange Rows.evolveInvertSpec) false w args) (Rows.evolveInvertSpec.post enc Tryz.prog Tryz.f10 false true false false):=by
 refine returnsInHanded_of_change_and (C:=Tryz.checked) (X:=fun w _=>laidMetH Tryz.prog Rows.evolveInvertRow.laid w) (fun _ _ _ hh h=>h.of_heap hh) own started (by kernel_rfl) Tryz.func10
  (ChangeSpec.witness_shaped (enc:=enc) (C:=Tryz.checked) (os:=os) (X:=fun w _=>laidMetH Tryz.prog Rows.evolveInvertRow.laid w) false (World.doorLaid Tryz.prog 4000 os) #[.agg #[.slice none 0 0],.slice none 0 0] 8 rfl (World.shaped_of_RefB (by kernel_rfl) (by kernel_rfl)) (by kernel_rfl) (by kernel_rfl) (by kernel_rfl) (HS os _)) ?_
 intro W base args ds gs before ov hW eu oc hL _;have nv:∀ (j:Nat) t v,Tryz.f10.params[j]?=some t->args[j]?=some v->Value.okWide Tryz.prog W .any base t v:=ov;have hW':=hW;obtain ⟨p,q,tk,hV,rfl,hfz,wd⟩:=hW;have hA:DataW.TrodAll enc Tryz.prog W 0 (fun _=>true) true Tryz.f10.params.toList args.toList ds p:=tk;rw [Tryz.params10] at hA nv;have ut:DataW.TrodAll enc Tryz.prog W 0 (fun _=>true) true [24,25] args.toList ds p:=hA;have hd:∃ d0 d1,ds=[d0,d1]:=by
  obtain ⟨_,_,d0,_,_,_,_,rfl,_,_,r0⟩:=trodAll_cons ut;obtain ⟨_,_,d1,_,_,_,_,rfl,_,_,r1⟩:=trodAll_cons r0;obtain ⟨_,rfl,_⟩:=trodAll_nil r1;exact ⟨d0,d1,rfl⟩
 obtain ⟨d0,d1,rfl⟩:=hd;obtain ⟨xs,hx,lf⟩:=H7 (T:=edtTs) LX ut (fun j t v e e'=>nv j t v (by simpa using e) (by simpa using e')) (fun m hm=>of_decide_eq_true (y8.1 oc m (XN hm rfl))) (by kernel_rfl);simp only [j9] at lf;obtain ⟨a0,_,rfl,t0,a1,_,rfl,t1,rfl⟩:=lf;obtain ⟨s1,rfl,pf,et,uf⟩:=schTyL t0;obtain ⟨ln,l,rfl,hl,he⟩:=edsTy t1;obtain ⟨rfl,rfl⟩:=trodVars_none hV;have ls:=bW s1 ln l pf ⟨et,uf⟩ hl (fun e h=>⟨(he e h).1,(he e h).2.1⟩);have hC:=(GM WU apT_ok (apX_ok (O:=noObjs.of)) ls).2 k9 W args.toList (fun _ _ h=>h.elim) hx;rw [yX] at hC;refine hC.mono fun e W' ⟨v,he,hv,hb⟩=>?_
 have hv':v=.bool true:=hv;subst he;subst hv';exact ⟨_,rfl,xR (pa:=p) (pv:=[]) hW' (fun _ _ _=>trodAll_cons_mk (shut_bool Tryz.underlying4 _) trodAll_mk0) (wU laidOut hb ut (by kernel_rfl)) rfl hb⟩
theorem nW:joinA Tryz.pinned.checked.prog 10 Tryz.f10 Rows.evolveInvertSpec Rows.evolveInvertRow=true:=by kernel_rfl
theorem mW:joinB Tryz.pinned.checked.prog 10 Tryz.f10 Rows.evolveInvertSpec Rows.evolveInvertRow=true:=by kernel_rfl
theorem QW:joinC Tryz.pinned.checked.prog 10 Tryz.f10 Rows.evolveInvertSpec Rows.evolveInvertRow=true:=by kernel_rfl
theorem WW:joinD Tryz.pinned.checked.prog 10 Tryz.f10 Rows.evolveInvertSpec Rows.evolveInvertRow=true:=by kernel_rfl
theorem EW:joinE Tryz.pinned.checked.prog 10 Tryz.f10 Rows.evolveInvertSpec Rows.evolveInvertRow=true:=by kernel_rfl
theorem RW:joinF Tryz.pinned.checked.prog 10 Tryz.f10 Rows.evolveInvertSpec Rows.evolveInvertRow=true:=by kernel_rfl
theorem TW:joinG Tryz.pinned.checked.prog 10 Tryz.f10 Rows.evolveInvertSpec Rows.evolveInvertRow=true:=by kernel_rfl
theorem mR:Rows.EvolveInvertSaid :=
 OpenClaim.holds_of_wide 10 Tryz.f10 rfl rfl rfl rfl rfl rfl rfl ⟨rfl,rfl,rfl,rfl,rfl⟩ rfl rfl rfl rfl rfl (by kernel_rfl) Tryz.func10 (T2 nW mW QW WW EW RW TW)
  (of_decide_eq_true (by kernel_rfl)) (by unfold Func.isWrapper; first | (rw [if_pos (by decide +kernel)]; kernel_rfl) | (rw [if_neg (by decide +kernel)]; exact ⟨rfl,rfl⟩))
  (fun os started H enc _=>mQ os started H enc)
end
end Go.Proofs.YtbhbeakhognieaaGreatDoor
