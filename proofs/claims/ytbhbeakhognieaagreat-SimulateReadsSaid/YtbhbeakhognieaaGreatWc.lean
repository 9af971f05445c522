/- A part of the proof. -/
import Derived.Test.YtbhbeakhognieaaGreatWb
import Derived.ProofKit
import Derived.JoinedCond
set_option linter.all false
set_option maxRecDepth 100000
set_option maxHeartbeats 8000000
open Option renaming bind_some → J, bind_eq_some_iff → ye
open List renaming getElem?_eq_getElem → y5, all_eq_true → y6, getElem?_eq_some_iff → y9, drop_eq_getElem_cons → yb, mem_of_getElem? → yh, length_map → yu, map_congr_left → yw, length_append → yz, take_of_length_le → yB, length_cons → yF, map_append → yH, flatten_cons → yI, length_take → yL, getElem?_append_right → yQ
open Bool renaming and_eq_true → y7, false_eq_true → yA
open Nat renaming succ_mul → yy, zero_add → yK, mul_le_mul_right → yZ
namespace Go.Proofs.YtbhbeakhognieaaGreat
open Go
noncomputable def UO:MA:=cF [] Tryz.f48
theorem xU:cA Tryz.prog 48 UO:=okF Tryz.func48
noncomputable def EO:MA:=cF [14,20] Tryz.f49
theorem gU:cA Tryz.prog 49 EO:=okF Tryz.func49
def jD:C:=.seq (oR [oM 48 5,oF 49 7 2,oL 50 49,oH 51 50,oB 52 .lss 48 51] (oD 52 .skip (.exit 0))) (.seq (.block 1 (oR [oF 55 7 2,oL 56 55,oM 57 5,oI 58 2 56 57,oA 59 2 58,oF 60 7 3,oL 61 60,oM 62 5,oI 63 2 61 62,oA 64 2 63,oS 65 (.eqa true [0,1] (.t 59) (.t 64))] (oD 65 (oR [oZ 4 false] .ret) .skip))) (.reg [oM 53 5,oC 54 .add 53 1,oM 5 54]))
def MB:MA:=⟨(oR [oQ 2 8 0,oQ 3 8 1,oZ 4 false] (.seq (oR [oF 6 0 2,oL 7 6,oF 8 0 3,oL 9 8,oB 10 .neq 7 9,oM 11 10,oFg 12 1 2 11 false,oP 13 12 11 false,oFg 14 1 3 11 false,oP 15 14 11 false,oG 16 (.bin .neq true (.t 13) (.t 15)) 11 false,oPo 17 11 16,oM 18 17,oFg 19 2 2 18 false,oP 20 19 18 false,oFg 21 2 3 18 false,oP 22 21 18 false,oBg 23 .neq 20 22 18 false,oPo 24 18 23,oM 25 24,oFg 26 3 2 25 false,oP 27 26 25 false,oFg 28 3 3 25 false,oP 29 28 25 false,oBg 30 .neq 27 29 25 false,oPo 31 25 30,oM 32 31,oFg 33 4 2 32 false,oP 34 33 32 false,oFg 35 4 3 32 false,oP 36 35 32 false,oBg 37 .neq 34 36 32 false,oPo 38 32 37,oM 39 38,oFg 40 7 2 39 false,oP 41 40 39 false,oHg 42 41 39 false,oFg 43 7 3 39 false,oP 44 43 39 false,oHg 45 44 39 false,oBg 46 .neq 42 45 39 false,oPo 47 39 46] (oD 47 (oR [oZ 4 false] .ret) .skip)) (.seq (oR [oJ 5 0] (.block 0 (.loop jD))) (oR [oF 66 5 2,oL 67 66,oF 68 5 3,oL 69 68,oC2 70 88 67 69,oM 71 70,oFg 72 6 2 71 true,oP 73 72 71 true,oFg 74 6 3 71 true,oP 75 74 71 true,oCg 76 88 73 75 71 true,oPa 77 71 76,oM 4 77] .ret)))),[(.tmp 4)],2,[]⟩
theorem TR:cA Tryz.prog 51 MB:=okF Tryz.func51
def kL:MA:=⟨(oR [oQ 2 1 0,oJ 4 0] (oR [oF 5 0 2,oL 6 5,oM 7 1,oI 8 5 6 7,oF 9 0 8,oL 10 9,oS 11 (.bin .rem false (.t 10) (.c (.int .u8 9))),oS 12 (.conv (.some .i64) (.t 11)),oS 13 (.bin .add false (.c (.int .i64 1)) (.t 12)),oM 4 13] .ret)),[(.tmp 4)],2,[]⟩
theorem mZ:cA Tryz.prog 81 kL:=okF Tryz.func81
def dK:MA:=⟨(oR [oZ 2 false] (oR [oM 3 0,oC 4 .eql 3 4,oM 5 4,oMg 6 0 5 false,oCi 7 .eql 6 5 5 false,oPo 8 5 7,oM 9 8,oMg 10 0 9 false,oCi 11 .eql 10 6 9 false,oPo 12 9 11,oM 2 12] .ret)),[(.tmp 2)],1,[]⟩
theorem ZX:cA Tryz.prog 82 dK:=okF Tryz.func82
def LM:MA:=⟨(oR [oQ 1 5 0,oJ 2 0] (oR [oF 3 1 1,oL 4 3,oS 5 (.bin .rem false (.t 4) (.c (.int .u8 7))),oS 6 (.conv (.some .i64) (.t 5)),oC 7 .sub 6 3,oM 2 7] .ret)),[(.tmp 2)],1,[]⟩
theorem F4:cA Tryz.prog 83 LM:=okF Tryz.func83
def jL:MA:=⟨(oR [oQ 1 5 0,oJ 2 0] (oR [oA 3 5 1,oC1 4 83 3,oF 5 2 1,oL 6 5,oS 7 (.bin .rem false (.t 6) (.c (.int .u8 6))),oS 8 (.conv (.some .i64) (.t 7)),oB 9 .add 4 8,oM 2 9] .ret)),[(.tmp 2)],1,[]⟩
theorem nZ:cA Tryz.prog 84 jL:=okF Tryz.func84
def MG:C:=.seq (oR [oM 5 4,oC 6 .lss 5 6] (oD 6 .skip (.exit 0))) (.seq (.block 1 (oR [oF 9 1 1,oL 10 9,oM 11 4,oB 12 .shr 10 11,oS 13 (.bin .rem false (.t 12) (.c (.int .u8 2))),oS 14 (.bin .eql false (.t 13) (.c (.int .u8 1)))] (oD 14 (.reg [oM 15 3,oM 16 4,oC 17 .add 16 1,oS 18 (.bsl [(.int .i64 0)] 1 [(0,(.t 17))]),oAp 19 3 1 8 15 18,oM 3 19]) .skip))) (.reg [oM 7 4,oC 8 .add 7 1,oM 4 8]))
def JM:MA:=⟨(oR [oQ 1 5 0,oS 2 (.mv (.c (.sl true [])))] (oR [oS 3 (.mv (.c (.sl true [])))] (.seq (oR [oJ 4 0] (.block 0 (.loop MG))) (.seq (oR [oM 20 3,oH 21 20,oC 22 .eql 21 0] (oD 22 (.reg [oM 23 3,oS 24 (.bsl [(.int .i64 0)] 1 [(0,(.c (.int .i64 1)))]),oAp 25 3 1 8 23 24,oM 3 25]) .skip)) (oR [oM 26 3,oM 2 26] .ret))))),[(.tmp 2)],1,[]⟩
theorem S4:cA Tryz.prog 85 JM:=okF Tryz.func85
def cB:C:=.seq (oR [oM 23 10,oF 24 4 7,oL 25 24,oH 26 25,oB 27 .lss 23 26] (oD 27 .skip (.exit 2))) (.seq (.block 3 (oR [oF 30 4 7,oL 31 30,oM 32 10,oI 33 3 31 32,oA 34 3 33,oY 11 zzg,oV 3 11 34] (oR [oA 35 1 3,oM 36 1,oF 37 1 11,oL 38 37,oS 39 (.call .any 126 [(.t 35),(.t 36),(.t 38)]),oM 12 39] (.seq (oR [oF 40 0 11,oL 41 40,oS 42 (.bin .rem false (.t 41) (.c (.int .u8 12))),oS 43 (.conv (.some .i64) (.t 42)),oS 44 (.bin .add false (.c (.int .i64 1)) (.t 43)),oM 45 9,oB 46 .neq 44 45,oM 47 46,oMg 48 12 47 false,oCi 49 .lss 48 0 47 false,oPo 50 47 49] (oD 50 (.exit 3) .skip)) (oR [oM 51 9,oM 52 9,oS 53 (.bin .add false (.c (.int .i64 97)) (.t 52)),oS 54 (.conv (.some .i32) (.t 53)),oS 55 (.rstr (.t 54)),oS 56 (.bin .add false (.c (.str (ByteArray.mk #[109]))) (.t 55)),oM 57 12,oS 58 (.build zzh [(0,(1,(.t 51))),(1,(1,(.t 56))),(2,(1,(.t 57)))]),oY 13 zzh,oV 13 13 58] (.seq (oR [oM 59 2,oM 60 59,oFg 61 2 11 60 true,oP 62 61 60 true,oG 63 (.bin .rem false (.t 62) (.c (.int .u8 4))) 60 true,oG 64 (.bin .eql false (.t 63) (.c (.int .u8 1))) 60 true,oPa 65 60 64] (oD 65 (.reg [oF 66 3 13,oN (.store .any false 1 (.t 66) (.c (.bool true)))]) .skip)) (.seq (oR [oM 67 2,oM 68 67,oFg 69 2 11 68 true,oP 70 69 68 true,oG 71 (.bin .rem false (.t 70) (.c (.int .u8 4))) 68 true,oG 72 (.bin .geq false (.t 71) (.c (.int .u8 2))) 68 true,oPa 73 68 72] (oD 73 (.reg [oA 75 1 3,oM 76 12,oF 77 2 11,oL 78 77,oS 79 (.bin .quo false (.t 78) (.c (.int .u8 4))),oS 80 (.call .any 127 [(.t 75),(.t 76),(.t 79)]),oM 74 80,oX 81 74 0,oX 82 74 1,oF 83 5 13,oV 8 83 81,oF 84 4 13,oW 84 82]) .skip)) (oR [oM 85 8,oA 86 13 13,oS 87 (.bsl zzh 1 [(0,(.t 86))]),oS 88 (.appm .any 90 13 160 (.t 85) (.t 87)),oM 8 88] (.exit 2))))))))) (.reg [oM 28 10,oC 29 .add 28 1,oM 10 29]))
def XJ:C:=.seq (oR [oM 19 9,oC 20 .leq 19 12] (oD 20 .skip (.exit 0))) (.seq (.block 1 (oR [oJ 10 0] (.block 2 (.loop cB)))) (.reg [oM 21 9,oC 22 .add 21 1,oM 9 22]))
def fK:MA:=⟨(oR [oQ 3 1 0,oS 6 (.mv (.c (.sl true [])))] (oR [oF 14 0 3,oL 15 14,oM 16 1,oI 17 5 15 16,oA 18 5 17,oY 7 zzd,oV 5 7 18] (oR [oS 8 (.mv (.c (.sl true [])))] (.seq (oR [oJ 9 1] (.block 0 (.loop XJ))) (oR [oM 89 8,oM 6 89] .ret))))),[(.tmp 6)],3,[177]⟩
theorem CX:cA Tryz.prog 86 fK:=okF Tryz.func86
def qJ:C:=.seq (oR [oM 11 6,oM 12 5,oB 13 .lss 11 12] (oD 13 .skip (.exit 0))) (.seq (.block 1 (oR [oM 16 1,oS 17 (.conv (.some .i64) (.t 16)),oM 18 6,oB 19 .add 17 18,oM 20 5,oB 21 .rem 19 20,oM 7 21] (oR [oA 22 1 2,oM 23 7,oC2 24 81 22 23,oC1 25 118 24] (oD 25 (oR [oM 26 7,oM 4 26] .ret) .skip)))) (.reg [oM 14 6,oC 15 .add 14 1,oM 6 15]))
def KM:MA:=⟨(oR [oQ 2 1 0,oJ 4 0] (oR [oF 8 0 2,oL 9 8,oH 10 9,oM 5 10] (.seq (oR [oJ 6 0] (.block 0 (.loop qJ))) (oR [oJ 4 (-1)] .ret)))),[(.tmp 4)],2,[]⟩
theorem D4:cA Tryz.prog 87 KM:=okF Tryz.func87
noncomputable def NL:MA:=cF [] Tryz.f89
theorem UQ:cA Tryz.prog 89 NL:=okF Tryz.func89
noncomputable def ML:MA:=cF [] Tryz.f90
theorem IQ:cA Tryz.prog 90 ML:=okF Tryz.func90
noncomputable def XM:MA:=cF [] Tryz.f91
theorem UR:cA Tryz.prog 91 XM:=okF Tryz.func91
noncomputable def SJ:MA:=cF [] Tryz.f92
theorem dO:cA Tryz.prog 92 SJ:=okF Tryz.func92
noncomputable def CM:MA:=cF [] Tryz.f93
theorem IR:cA Tryz.prog 93 CM:=okF Tryz.func93
def tJ:C:=.seq (oR [oM 8 7,oF 9 5 3,oL 10 9,oH 11 10,oB 12 .lss 8 11,oM 13 12,oFg 14 5 3 13 true,oP 15 14 13 true,oMg 16 7 13 true,oIg 17 8 15 16 13 true,oLg 18 8 17 13 true,oLg 19 8 4 13 true,oCg 20 129 18 19 13 true,oCi 21 .lss 20 0 13 true,oPa 22 13 21] (oD 22 .skip (.exit 0))) (.block 1 (.reg [oM 23 7,oC 24 .add 23 1,oM 7 24]))
def BM:MA:=⟨(oR [oQ 3 8 0,oQ 4 8 1,oQ 5 8 2,oY 6 zza] (oR [oJ 7 0] (.seq (.block 0 (.loop tJ)) (.seq (oR [oM 25 7,oF 26 5 3,oL 27 26,oH 28 27,oB 29 .lss 25 28,oM 30 29,oFg 31 5 3 30 true,oP 32 31 30 true,oMg 33 7 30 true,oIg 34 8 32 33 30 true,oLg 35 8 34 30 true,oLg 36 8 4 30 true,oCg 37 129 35 36 30 true,oCi 38 .eql 37 0 30 true,oPa 39 30 38] (oD 39 (oR [oA 40 8 3,oV 8 6 40] .ret) .skip)) (oR [oS 41 (.bsl zza 0 []),oF 42 5 3,oLr 43 3 1 42,oM 44 7,oS 45 (.slc false 8 (.t 43) .none (.some (.t 44)) .none),oS 46 (.app .imm 41 8 120 (.t 41) (.t 45)),oS 47 (.load (.root 4) true 8 (.t 4)),oS 48 (.bsl zza 1 [(0,(.t 47))]),oS 49 (.app .imm 41 8 120 (.t 46) (.t 48)),oF 50 5 3,oLr 51 3 1 50,oM 52 7,oS 53 (.slc false 8 (.t 51) (.some (.t 52)) .none .none),oS 54 (.app .imm 41 8 120 (.t 49) (.t 53)),oF 55 5 3,oN (.store (.root 3) false 1 (.t 55) (.t 54))] (oR [oS 56 (.bsl zza 0 []),oF 57 6 3,oLr 58 3 1 57,oM 59 7,oS 60 (.slc false 8 (.t 58) .none (.some (.t 59)) .none),oS 61 (.app .imm 41 8 120 (.t 56) (.t 60)),oS 62 (.load (.root 5) true 8 (.t 5)),oS 63 (.bsl zza 1 [(0,(.t 62))]),oS 64 (.app .imm 41 8 120 (.t 61) (.t 63)),oF 65 6 3,oLr 66 3 1 65,oM 67 7,oS 68 (.slc false 8 (.t 66) (.some (.t 67)) .none .none),oS 69 (.app .imm 41 8 120 (.t 64) (.t 68)),oF 70 6 3,oN (.store (.root 3) false 1 (.t 70) (.t 69))] (oR [oA 71 8 3,oV 8 6 71] .ret))))))),[(.cell 6 true 8)],3,[]⟩
theorem K4:cA Tryz.prog 94 BM:=okF Tryz.func94
def zK:MA:=⟨(oR [oQ 2 1 0,oJ 4 0] (.seq (oR [oA 6 1 2,oC1 7 72 6,oM 5 7] (oR [oM 8 5,oC 9 .neq 8 0] (oD 9 (oR [oM 10 5,oM 4 10] .ret) .skip))) (.seq (oR [oM 11 1,oC 12 .lss 11 0,oM 13 12,oMg 14 1 13 false,oFg 15 0 2 13 false,oP 16 15 13 false,oHg 17 16 13 false,oBg 18 .geq 14 17 13 false,oPo 19 13 18] (oD 19 (oR [oJ 4 4] .ret) .skip)) (oR [oJ 4 0] .ret)))),[(.tmp 4)],2,[]⟩
theorem rY:cA Tryz.prog 95 zK:=okF Tryz.func95
def jK:MA:=⟨(oR [oQ 3 1 0,oQ 5 8 2,oZ 6 false] (oR [oA 7 1 3,oM 8 1,oA 9 8 5,oS 10 (.call .any 130 [(.t 7),(.t 8),(.t 9),(.c (.bool true))]),oM 6 10] .ret)),[(.tmp 6)],3,[]⟩
theorem MX:cA Tryz.prog 96 jK:=okF Tryz.func96
def uI:MA:=⟨(oR [oY 2 zzb] (oR [oS 3 (.bsl [(.int .i64 0)] 0 []),oM 4 0,oAp 5 3 1 8 3 4,oS 6 (.build zzb [(8,(1,(.t 5)))]),oV 10 2 6] .ret)),[(.cell 2 true 10)],1,[]⟩
theorem AU:cA Tryz.prog 97 uI:=okF Tryz.func97
def DG:C:=.seq (oR [oM 7 6,oF 8 5 2,oL 9 8,oH 10 9,oB 11 .lss 7 10] (oD 11 .skip (.exit 0))) (.seq (.block 1 (oR [oF 14 5 2,oL 15 14,oM 16 6,oI 17 2 15 16,oF 18 0 17,oL 19 18,oM 20 1,oB 21 .eql 19 20] (oD 21 (oR [oM 22 6,oM 4 22,oZ 5 true] .ret) .skip))) (.reg [oM 12 6,oC 13 .add 12 1,oM 6 13]))
def NI:MA:=⟨(oR [oQ 2 10 0,oJ 4 0,oZ 5 false] (.seq (oR [oJ 6 0] (.block 0 (.loop DG))) (oR [oJ 4 0,oZ 5 false] .ret))),[(.tmp 4),(.tmp 5)],2,[]⟩
theorem tW:cA Tryz.prog 98 NI:=okF Tryz.func98
def zD:MA:=⟨(oR [oQ 6 1 0,oQ 7 10 1,oQ 8 8 2,oQ 9 1 3,oQ 10 10 4,oY 12 zzb] (oR [oA 19 10 7,oF 20 4 8,oL 21 20,oC2 22 131 19 21,oM 18 22,oX 23 18 0,oX 24 18 1,oM 13 23,oM 14 24] (oR [oA 26 10 10,oF 27 4 8,oL 28 27,oC2 29 131 26 28,oM 25 29,oX 30 25 0,oX 31 25 1,oM 15 30,oM 16 31] (.seq (oR [oM 32 16,oU 33 32,oM 34 33,oFg 35 9 10 34 true,oP 36 35 34 true,oUg 37 36 34 true,oPa 38 34 37] (oD 38 (oR [oM 39 5,oC1 40 97 39,oV 10 12 40] .ret) .skip)) (.seq (oR [oM 41 16,oU 42 41] (oD 42 (oR [oF 43 0 8,oLr 44 8 1 43,oF 45 4 8,oLr 46 8 1 45,oF 47 4 8,oLr 48 8 1 47,oS 49 (.load (.root 6) true 1 (.t 6)),oF 50 6 7,oLr 51 7 1 50,oM 52 13,oI 53 13 51 52,oF 54 2 53,oS 55 (.load .imm false 1 (.t 54)),oF 56 6 8,oLr 57 8 1 56,oS 58 (.iaddr 8 (.t 57) (.c (.int .i64 0))),oS 59 (.load .imm true 8 (.t 58)),oS 60 (.call .imm 132 [(.t 49),(.t 55),(.t 59)]),oS 61 (.build zzc [(0,(1,(.t 48))),(1,(1,(.t 60)))]),oS 62 (.bsl zzc 1 [(0,(.t 61))]),oS 63 (.build zza [(0,(1,(.t 44))),(4,(1,(.t 46))),(7,(1,(.t 62)))]),oS 64 (.call .imm 102 [(.t 63)]),oN (.store (.root 12) true 10 (.t 12) (.t 64))] .ret) .skip)) (oR [oS 65 (.load (.root 6) true 1 (.t 6)),oF 66 6 7,oLr 67 7 1 66,oM 68 13,oI 69 13 67 68,oF 70 2 69,oS 71 (.load .imm false 1 (.t 70)),oF 72 6 8,oLr 73 8 1 72,oS 74 (.iaddr 8 (.t 73) (.c (.int .i64 0))),oS 75 (.load .imm true 8 (.t 74)),oS 76 (.load (.root 9) true 1 (.t 9)),oF 77 6 10,oLr 78 10 1 77,oM 79 15,oI 80 13 78 79,oF 81 2 80,oS 82 (.load .imm false 1 (.t 81)),oM 83 5,oF 84 4 8,oLr 85 8 1 84,oS 86 (.call .imm 101 [(.t 83),(.t 85)]),oS 87 (.call .imm 59 [(.t 65),(.t 71),(.t 75),(.t 76),(.t 82),(.t 86)]),oY 17 zzb,oN (.store (.root 17) true 10 (.t 17) (.t 87))] (.seq (oR [oF 88 9 17,oL 89 88,oU 90 89] (oD 90 (oR [oA 91 10 17,oV 10 12 91] .ret) .skip)) (oR [oF 92 0 8,oL 93 92,oF 94 4 8,oL 95 94,oF 96 0 17,oA 97 8 96,oS 98 (.bsl zza 1 [(0,(.t 97))]),oS 99 (.build zza [(0,(1,(.t 93))),(4,(1,(.t 95))),(6,(1,(.t 98)))]),oC1 100 102 99,oV 10 12 100] .ret)))))))),[(.cell 12 true 10)],6,[]⟩
theorem iY:cA Tryz.prog 99 zD:=okF Tryz.func99
def xD:C:=.seq (oR [oM 121 20,oF 122 6 7,oL 123 122,oH 124 123,oB 125 .lss 121 124] (oD 125 .skip (.exit 2))) (.seq (.block 3 (oR [oF 128 6 7,oL 129 128,oM 130 20,oI 131 13 129 130,oA 132 13 131,oY 21 zzh,oV 13 21 132] (.seq (oR [oA 134 10 10,oF 135 0 21,oL 136 135,oC2 137 131 134 136,oM 133 137,oX 138 133 0,oX 139 133 1,oM 22 138,oM 23 139] (oR [oM 140 23] (oD 140 (.exit 3) .skip))) (.seq (oR [oF 141 3 21,oL 142 141] (oD 142 (oR [oM 143 5,oF 144 0 21,oL 145 144,oC2 146 101 143 145,oC1 147 97 146,oV 10 12 147] .ret) .skip)) (oR [oA 148 13 21,oF 149 6 8,oL 150 149,oM 151 20,oI 152 8 150 151,oA 153 8 152,oC2 154 133 148 153,oU 155 154] (oD 155 (.reg [oF 156 7 13,oLr 157 13 1 156,oF 158 0 21,oLr 159 21 1 158,oS 160 (.load (.root 6) true 1 (.t 6)),oF 161 2 21,oLr 162 21 1 161,oF 163 6 8,oLr 164 8 1 163,oM 165 20,oI 166 8 164 165,oS 167 (.load .imm true 8 (.t 166)),oS 168 (.call .imm 132 [(.t 160),(.t 162),(.t 167)]),oS 169 (.build zzc [(0,(1,(.t 159))),(1,(1,(.t 168)))]),oS 170 (.bsl zzc 1 [(0,(.t 169))]),oS 171 (.app .imm 137 2 24 (.t 157) (.t 170)),oF 172 7 13,oN (.store (.root 13) false 1 (.t 172) (.t 171))]) .skip)))))) (.reg [oM 126 20,oC 127 .add 126 1,oM 20 127]))
def XA:C:=.seq (oR [oM 27 14,oF 28 6 10,oL 29 28,oH 30 29,oB 31 .lss 27 30] (oD 31 .skip (.exit 0))) (.seq (.block 1 (oR [oF 34 6 10,oL 35 34,oM 36 14,oI 37 13 35 36,oA 38 13 37,oY 15 zzh,oV 13 15 38] (oR [oM 39 5,oF 40 0 15,oL 41 40,oC2 42 101 39 41,oM 16 42] (oR [oA 44 10 7,oF 45 0 15,oL 46 45,oC2 47 131 44 46,oM 43 47,oX 48 43 0,oX 49 43 1,oM 17 48,oM 18 49] (.seq (oR [oM 50 18,oU 51 50,oM 52 51,oFg 53 4 15 52 true,oP 54 53 52 true,oUg 55 54 52 true,oPa 56 52 55] (oD 56 (oR [oM 57 16,oC1 58 97 57,oV 10 12 58] .ret) .skip)) (.seq (oR [oM 59 18,oU 60 59] (oD 60 (oR [oF 61 6 13,oL 62 61,oF 63 5 15,oA 64 8 63,oS 65 (.bsl zza 1 [(0,(.t 64))]),oAp 66 41 8 120 62 65,oF 67 6 13,oW 67 66] (.exit 1)) .skip)) (oR [oS 68 (.load (.root 6) true 1 (.t 6)),oF 69 6 7,oLr 70 7 1 69,oM 71 17,oI 72 13 70 71,oF 73 2 72,oS 74 (.load .imm false 1 (.t 73)),oF 75 6 8,oLr 76 8 1 75,oM 77 17,oI 78 8 76 77,oS 79 (.load .imm true 8 (.t 78)),oS 80 (.load (.root 9) true 1 (.t 9)),oF 81 2 15,oLr 82 15 1 81,oM 83 16,oS 84 (.call .imm 59 [(.t 68),(.t 74),(.t 79),(.t 80),(.t 82),(.t 83)]),oY 19 zzb,oN (.store (.root 19) true 10 (.t 19) (.t 84))] (.seq (oR [oF 85 6 7,oL 86 85,oM 87 17,oI 88 13 86 87,oA 89 13 88,oF 90 6 8,oL 91 90,oM 92 17,oI 93 8 91 92,oA 94 8 93,oC2 95 133 89 94,oM 96 95,oFg 97 9 19 96 true,oP 98 97 96 true,oUg 99 98 96 true,oMg 100 99 96 true,oLg 101 13 15 100 false,oFg 102 0 19 100 false,oLg 103 8 102 100 false,oCg 104 133 101 103 100 false,oUg 105 104 100 false,oG 106 (.pick (.t 100) (.c (.bool true)) (.t 105)) 96 true,oPa 107 96 106] (oD 107 (oR [oM 108 16,oC1 109 97 108,oV 10 12 109] .ret) .skip)) (.seq (oR [oF 110 9 19,oL 111 110,oU 112 111] (oD 112 (oR [oA 113 10 19,oV 10 12 113] .ret) .skip)) (.reg [oF 114 6 13,oL 115 114,oF 116 0 19,oA 117 8 116,oS 118 (.bsl zza 1 [(0,(.t 117))]),oAp 119 41 8 120 115 118,oF 120 6 13,oW 120 119])))))))))) (.reg [oM 32 14,oC 33 .add 32 1,oM 14 33]))
def GE:MA:=⟨(oR [oQ 6 1 0,oQ 7 10 1,oQ 8 8 2,oQ 9 1 3,oQ 10 10 4,oY 12 zzb] (oR [oF 24 0 8,oL 25 24,oS 26 (.build zza [(0,(1,(.t 25)))]),oY 13 zza,oV 8 13 26] (.seq (oR [oJ 14 0] (.block 0 (.loop XA))) (.seq (oR [oJ 20 0] (.block 2 (.loop xD))) (oR [oA 173 8 13,oC1 174 102 173,oV 10 12 174] .ret))))),[(.cell 12 true 10)],6,[]⟩
theorem pW:cA Tryz.prog 100 GE:=okF Tryz.func100
def qM:MA:=⟨(oR [oS 4 (.mv (.c (.sl true [])))] (oR [oS 5 (.bsl [(.int .i64 0)] 0 []),oM 6 0,oAp 7 3 1 8 5 6,oM 8 1,oS 9 (.bsl [(.int .i64 0)] 1 [(0,(.t 8))]),oAp 10 3 1 8 7 9,oM 4 10] .ret)),[(.tmp 4)],2,[]⟩
theorem J7:cA Tryz.prog 101 qM:=okF Tryz.func101
def bL:MA:=⟨(oR [oQ 1 8 0,oY 2 zzb] (oR [oA 3 8 1,oS 4 (.build zzb [(0,(8,(.t 3))),(9,(1,(.c (.bool true))))]),oV 10 2 4] .ret)),[(.cell 2 true 10)],1,[]⟩
theorem PZ:cA Tryz.prog 102 bL:=okF Tryz.func102
def ZD:MA:=⟨(oR [oQ 2 1 0,oJ 4 0] (.seq (oR [oA 6 1 2,oC1 7 20 6,oM 5 7] (oR [oM 8 5,oC 9 .neq 8 0] (oD 9 (oR [oM 10 5,oM 4 10] .ret) .skip))) (.seq (oR [oM 11 1,oC 12 .lss 11 0,oM 13 12,oMg 14 1 13 false,oFg 15 0 2 13 false,oP 16 15 13 false,oHg 17 16 13 false,oBg 18 .geq 14 17 13 false,oPo 19 13 18] (oD 19 (oR [oJ 4 4] .ret) .skip)) (oR [oJ 4 0] .ret)))),[(.tmp 4)],2,[]⟩
theorem dT:cA Tryz.prog 103 ZD:=okF Tryz.func103
def pD:MA:=⟨(oR [oQ 1 10 0,oJ 2 0] (.seq (oR [oF 4 0 1,oL 5 4] (.block 0 (oR [oC 7 .eql 5 1,oM 6 7] (oD 6 (oR [oJ 2 2] .ret) (oR [oC 9 .eql 5 2,oM 8 9] (oD 8 (oR [oF 10 3 1,oL 11 10,oS 12 (.conv (.some .u64) (.t 11)),oF 13 2 1,oL 14 13,oS 15 (.conv (.some .u64) (.t 14)),oB 16 .sub 12 15,oM 3 16] (oR [oM 17 3,oS 18 (.bin .lss false (.t 17) (.c (.int .u64 2147483647)))] (oD 18 (oR [oM 19 3,oS 20 (.conv (.some .i64) (.t 19)),oC 21 .add 20 1,oM 2 21] .ret) .skip))) (oR [oC 23 .eql 5 4,oM 22 23] (oD 22 (oR [oF 24 5 1,oL 25 24,oH 26 25,oM 2 26] .ret) (oR [oC 28 .eql 5 3,oM 27 28] (oD 27 (oR [oF 29 4 1,oL 30 29,oC 31 .eql 30 0] (oD 31 (oR [oJ 2 1] .ret) .skip)) .skip)))))))))) (oR [oJ 2 2147483647] .ret))),[(.tmp 2)],1,[]⟩
theorem GU:cA Tryz.prog 104 pD:=okF Tryz.func104
def CE:C:=oR [oB 36 .lss 35 34] (.seq (oD 36 .skip (.exit 2)) (.seq (.block 3 (oR [oI 37 13 33 35,oA 38 13 37,oY 10 zzh,oV 13 10 38] (oR [oA 40 10 3,oF 41 0 10,oL 42 41,oC2 43 109 40 42,oM 39 43,oX 44 39 0,oX 45 39 1,oM 11 44,oM 12 45] (oR [oM 46 12,oU 47 46] (oD 47 (oR [oZ 4 false] .ret) .skip))))) (.reg [oC 48 .add 35 1,oM 35 48])))
def BE:C:=oR [oB 19 .lss 18 17] (.seq (oD 19 .skip (.exit 0)) (.seq (.block 1 (oR [oI 20 2 16 18,oA 21 2 20,oY 6 zzc,oV 2 6 21] (oR [oA 23 10 3,oF 24 0 6,oL 25 24,oC2 26 134 23 25,oM 22 26,oX 27 22 0,oX 28 22 1,oM 7 27,oM 8 28] (oR [oM 29 8,oU 30 29] (oD 30 (oR [oZ 4 false] .ret) .skip))))) (.reg [oC 31 .add 18 1,oM 18 31])))
def JE:MA:=⟨(oR [oQ 2 10 0,oQ 3 10 1,oZ 4 false] (.seq (oR [oF 13 9 3,oL 14 13] (oD 14 (oR [oZ 4 true] .ret) .skip)) (.seq (oR [oF 15 5 2,oL 16 15,oH 17 16,oJ 18 0] (.block 0 (.loop BE))) (.seq (oR [oF 32 6 2,oL 33 32,oH 34 33,oJ 35 0] (.block 2 (.loop CE))) (oR [oZ 4 true] .ret))))),[(.tmp 4)],2,[]⟩
theorem AQ:cA Tryz.prog 105 JE:=okF Tryz.func105
def OD:C:=oR [oB 76 .lss 75 74] (.seq (oD 76 .skip (.exit 2)) (.seq (.block 3 (oR [oI 77 13 73 75,oA 78 13 77,oY 17 zzh,oV 13 17 78] (oR [oA 80 10 7,oF 81 0 17,oL 82 81,oC2 83 109 80 82,oM 79 83,oX 84 79 0,oX 85 79 1,oM 18 84,oM 19 85] (oR [oM 86 19,oU 87 86,oM 88 87,oFg 89 3 17 88 true,oP 90 89 88 true,oPa 91 88 90] (oD 91 (oR [oJ 8 6] .ret) .skip))))) (.reg [oC 92 .add 75 1,oM 75 92])))
def PB:C:=oR [oB 24 .lss 23 22] (.seq (oD 24 .skip (.exit 0)) (.seq (.block 1 (oR [oI 25 13 21 23,oA 26 13 25,oY 10 zzh,oV 13 10 26] (oR [oA 28 10 5,oF 29 0 10,oL 30 29,oC2 31 109 28 30,oM 27 31,oX 32 27 0,oX 33 27 1,oM 11 32,oM 12 33] (.seq (oR [oM 34 12,oU 35 34] (oD 35 (.seq (oR [oF 36 4 10,oL 37 36,oU 38 37] (oD 38 (oR [oJ 8 7] .ret) .skip)) (.exit 1)) .skip)) (oR [oF 39 6 5,oL 40 39,oM 41 11,oI 42 13 40 41,oA 43 13 42,oY 13 zzh,oV 13 13 43] (.seq (oR [oF 44 4 13,oL 45 44,oU 46 45] (oD 46 (.exit 1) .skip)) (.seq (oR [oF 47 4 10,oL 48 47,oU 49 48] (oD 49 (oR [oJ 8 7] .ret) .skip)) (oR [oA 51 1 4,oF 52 2 13,oL 53 52,oF 54 5 13,oA 55 8 54,oA 56 1 6,oF 57 2 10,oL 58 57,oS 59 (.call .any 135 [(.t 51),(.t 53),(.t 55),(.t 56),(.t 58)]),oM 50 59,oX 60 50 0,oX 61 50 1,oY 14 zza,oV 8 14 60,oM 15 61] (oR [oM 62 15,oC 63 .neq 62 0,oM 64 63,oLg 65 8 14 64 false,oFg 66 5 10 64 false,oLg 67 8 66 64 false,oCg 68 136 65 67 64 false,oUg 69 68 64 false,oPo 70 64 69] (oD 70 (oR [oJ 8 10] .ret) .skip)))))))))) (.reg [oC 71 .add 23 1,oM 23 71])))
def eG:MA:=⟨(oR [oQ 4 1 0,oQ 5 10 1,oQ 6 1 2,oQ 7 10 3,oJ 8 0] (.seq (oR [oF 20 6 7,oL 21 20,oH 22 21,oJ 23 0] (.block 0 (.loop PB))) (.seq (oR [oF 72 6 5,oL 73 72,oH 74 73,oJ 75 0] (.block 2 (.loop OD))) (oR [oJ 8 0] .ret)))),[(.tmp 8)],4,[]⟩
theorem SQ:cA Tryz.prog 106 eG:=okF Tryz.func106
def kC:MA:=⟨(oR [oM 6 0,oM 7 1,oS 8 (.build [(.int .i64 0),(.int .i64 0)] [(0,(1,(.t 6))),(1,(1,(.t 7)))]),oY 5 [(.int .i64 0),(.int .i64 0)],oV 2 5 8] (oR [oL 9 2,oA 10 2 5,oC2 11 108 9 10,oU 12 11] (oD 12 (.reg [oL 13 2,oA 14 2 5,oS 15 (.bsl [(.int .i64 0),(.int .i64 0)] 1 [(0,(.t 14))]),oAp 16 113 2 16 13 15,oW 2 16]) .skip))),[],3,[]⟩
theorem cM:cA Tryz.prog 107 kC:=okF Tryz.func107
def wE:MA:=⟨(oR [oQ 3 2 1,oZ 4 false] (oR [oM 5 0,oA 6 2 3,oC2 7 137 5 6,oC 8 .geq 7 0,oM 4 8] .ret)),[(.tmp 4)],2,[]⟩
theorem nM:cA Tryz.prog 108 wE:=okF Tryz.func108
def iI:MA:=⟨(oR [oQ 2 10 0,oQ 3 1 1,oJ 4 0,oZ 5 false] (oR [oF 7 6 2,oL 8 7,oS 9 (.mkf 139 [(.t 3)]),oC2 10 138 8 9,oM 6 10] (oR [oM 11 6,oS 12 (.mm true (.t 11) (.c (.int .i64 0))),oM 13 6,oC 14 .geq 13 0,oM 4 12,oM 5 14] .ret))),[(.tmp 4),(.tmp 5)],2,[]⟩
theorem SU:cA Tryz.prog 109 iI:=okF Tryz.func109
noncomputable def PO:MA:=cF [] Tryz.f111
theorem nU:cA Tryz.prog 111 PO:=okF Tryz.func111
def pF:MA:=⟨(oR [oJ 4 0] (oR [oM 7 0,oC1 8 150 7,oM 5 8] (oR [oM 9 1,oC1 10 150 9,oM 6 10] (.seq (oR [oM 11 5] (oD 11 (.seq (oR [oM 12 6] (oD 12 (oR [oJ 4 0] .ret) .skip)) (oR [oJ 4 (-1)] .ret)) .skip)) (.seq (oR [oM 13 6] (oD 13 (oR [oJ 4 1] .ret) .skip)) (.seq (oR [oM 14 0,oM 15 1,oB 16 .lss 14 15] (oD 16 (oR [oJ 4 (-1)] .ret) .skip)) (.seq (oR [oM 17 0,oM 18 1,oB 19 .gtr 17 18] (oD 19 (oR [oJ 4 1] .ret) .skip)) (oR [oJ 4 0] .ret)))))))),[(.tmp 4)],2,[]⟩
theorem cR:cA Tryz.prog 112 pF:=okF Tryz.func112
def TE:C:=.seq (oR [oM 48 7,oM 49 6,oH 50 49,oB 51 .lss 48 50] (oD 51 .skip (.exit 4))) (.seq (.block 5 (oR [oM 54 6,oM 55 7,oI 56 1 54 55,oL 57 56,oC 58 .lss 57 0,oM 59 58,oMg 60 6 59 false,oMg 61 7 59 false,oIg 62 1 60 61 59 false,oP 63 62 59 false,oFg 64 0 1 59 false,oP 65 64 59 false,oHg 66 65 59 false,oBg 67 .geq 63 66 59 false,oPo 68 59 67] (oD 68 (oR [oJ 2 4] .ret) .skip))) (.reg [oM 52 7,oC 53 .add 52 1,oM 7 53]))
def KD:C:=.seq (oR [oM 27 5,oM 28 3,oB 29 .lss 27 28] (oD 29 .skip (.exit 2))) (.seq (.block 3 (oR [oF 32 0 4,oL 33 32,oC1 34 82 33,oM 35 34,oFg 36 0 1 35 true,oP 37 36 35 true,oMg 38 5 35 true,oIg 39 10 37 38 35 true,oFg 40 1 39 35 true,oP 41 40 35 true,oFg 42 1 4 35 true,oP 43 42 35 true,oBg 44 .eql 41 43 35 true,oPa 45 35 44] (oD 45 (oR [oJ 2 1] .ret) .skip))) (.reg [oM 30 5,oC 31 .add 30 1,oM 5 31]))
def gH:C:=.seq (oR [oM 12 3,oF 13 0 1,oL 14 13,oH 15 14,oB 16 .lss 12 15] (oD 16 .skip (.exit 0))) (.seq (.block 1 (oR [oF 19 0 1,oL 20 19,oM 21 3,oI 22 10 20 21,oA 23 10 22,oY 4 zze,oV 10 4 23] (.seq (oR [oA 24 10 4,oC1 25 116 24,oU 26 25] (oD 26 (oR [oJ 2 1] .ret) .skip)) (.seq (oR [oJ 5 0] (.block 2 (.loop KD))) (oR [oA 46 10 4,oC1 47 117 46,oM 6 47] (.seq (oR [oJ 7 0] (.block 4 (.loop TE))) (oR [oF 69 0 4,oL 70 69,oC 71 .eql 70 8,oM 72 71,oFg 73 0 1 72 true,oP 74 73 72 true,oFg 75 7 4 72 true,oP 76 75 72 true,oIg 77 10 74 76 72 true,oFg 78 0 77 72 true,oP 79 78 72 true,oG 80 (.call .any 118 [(.t 79)]) 72 true,oUg 81 80 72 true,oPa 82 72 81] (oD 82 (oR [oJ 2 1] .ret) .skip)))))))) (.reg [oM 17 3,oC 18 .add 17 1,oM 3 18]))
def AH:MA:=⟨(oR [oQ 1 1 0,oJ 2 0] (.seq (oR [oF 8 0 1,oL 9 8,oH 10 9,oC 11 .gtr 10 32] (oD 11 (oR [oJ 2 3] .ret) .skip)) (.seq (oR [oJ 3 0] (.block 0 (.loop gH))) (oR [oJ 2 0] .ret)))),[(.tmp 2)],1,[]⟩
theorem XX:cA Tryz.prog 72 AH:=okF Tryz.func72
def cD:C:=oR [oB 41 .lss 40 39] (.seq (oD 41 .skip (.exit 2)) (.seq (.block 3 (oR [oI 42 1 38 40,oL 43 42,oM 7 43] (oR [oM 44 7,oC 45 .lss 44 0,oM 46 45,oMg 47 7 46 false,oFg 48 0 1 46 false,oP 49 48 46 false,oHg 50 49 46 false,oBg 51 .geq 47 50 46 false,oPo 52 46 51] (oD 52 (oR [oJ 2 4] .ret) .skip)))) (.reg [oC 53 .add 40 1,oM 40 53])))
def GB:C:=oR [oB 17 .lss 16 15] (.seq (oD 17 .skip (.exit 0)) (.seq (.block 1 (oR [oI 18 10 14 16,oA 19 10 18,oY 5 zze,oV 10 5 19] (.seq (oR [oA 20 10 5,oC1 21 119 20,oU 22 21,oM 23 22,oFg 24 1 5 23 false,oP 25 24 23 false,oG 26 (.bin .neq false (.t 25) (.c (.str (ByteArray.mk #[])))) 23 false,oMg 27 26 23 false,oMg 28 3 27 true,oFg 29 1 5 27 true,oP 30 29 27 true,oG 31 (.mget false .none (.bool false) (.t 28) (.t 30)) 27 true,oPb 32 27 31 23 false,oPo 33 23 32] (oD 33 (oR [oJ 2 1] .ret) .skip)) (oR [oM 34 3,oF 35 1 5,oL 36 35,oN (.mset .none (.t 34) (.t 36) (.c (.bool true)))] (.seq (oR [oA 37 10 5,oC1 38 120 37,oH 39 38,oJ 40 0] (.block 2 (.loop cD))) (oR [oF 54 0 5,oL 55 54,oC 56 .eql 55 8,oM 57 56,oFg 58 0 1 57 true,oP 59 58 57 true,oFg 60 7 5 57 true,oP 61 60 57 true,oIg 62 10 59 61 57 true,oFg 63 0 62 57 true,oP 64 63 57 true,oCi 65 .lss 64 1 57 true,oMg 66 65 57 true,oFg 67 0 1 66 false,oP 68 67 66 false,oFg 69 7 5 66 false,oP 70 69 66 false,oIg 71 10 68 70 66 false,oFg 72 0 71 66 false,oP 73 72 66 false,oCi 74 .gtr 73 4 66 false,oG 75 (.pick (.t 66) (.c (.bool true)) (.t 74)) 57 true,oPa 76 57 75] (oD 76 (oR [oJ 2 1] .ret) .skip))))))) (.reg [oC 77 .add 16 1,oM 16 77])))
def qH:MA:=⟨(oR [oQ 1 1 0,oJ 2 0] (.seq (oR [oF 8 0 1,oL 9 8,oH 10 9,oC 11 .gtr 10 32] (oD 11 (oR [oJ 2 3] .ret) .skip)) (oR [oS 12 (.mkm),oM 3 12] (.seq (oR [oF 13 0 1,oL 14 13,oH 15 14,oJ 16 0] (.block 0 (.loop GB))) (oR [oJ 2 0] .ret))))),[(.tmp 2)],1,[]⟩
theorem aW:cA Tryz.prog 74 qH:=okF Tryz.func74
def HC:C:=oR [oB 27 .lss 26 25] (.seq (oD 27 .skip (.exit 2)) (.seq (.block 3 (oR [oI 28 13 24 26,oA 29 13 28,oY 9 zzh,oV 13 9 29] (oR [oF 30 4 9,oL 31 30,oM 32 31,oLg 33 1 1 32 true,oFg 34 2 9 32 true,oP 35 34 32 true,oFg 36 5 9 32 true,oLg 37 8 36 32 true,oG 38 (.call .any 121 [(.t 33),(.t 35),(.t 37)]) 32 true,oUg 39 38 32 true,oPa 40 32 39] (oD 40 (oR [oM 41 6,oF 42 0 9,oL 43 42,oM 2 41,oM 3 43,oJ 4 1] .ret) .skip)))) (.reg [oC 44 .add 26 1,oM 26 44])))
def OH:C:=oR [oB 19 .lss 18 17] (.seq (oD 19 .skip (.exit 0)) (.seq (.block 1 (oR [oM 20 18,oI 21 10 16 18,oA 22 10 21,oY 7 zze,oM 6 20,oV 10 7 22] (oR [oF 23 6 7,oL 24 23,oH 25 24,oJ 26 0] (.block 2 (.loop HC))))) (.reg [oC 45 .add 18 1,oM 18 45])))
def FF:MA:=⟨(oR [oQ 1 1 0,oJ 2 0,oJ 3 0,oJ 4 0] (.seq (oR [oA 10 1 1,oC1 11 74 10,oM 5 11] (oR [oM 12 5,oC 13 .neq 12 0] (oD 13 (oR [oM 14 5,oJ 2 0,oJ 3 0,oM 4 14] .ret) .skip))) (.seq (oR [oF 15 0 1,oL 16 15,oH 17 16,oJ 18 0] (.block 0 (.loop OH))) (oR [oJ 2 0,oJ 3 0,oJ 4 0] .ret)))),[(.tmp 2),(.tmp 3),(.tmp 4)],1,[]⟩
theorem fT:cA Tryz.prog 75 FF:=okF Tryz.func75
def kI:C:=oR [oB 55 .lss 54 53] (.seq (oD 55 .skip (.exit 3)) (.seq (.block 4 (oR [oI 56 13 52 54,oA 57 13 56,oY 10 zzh,oV 13 10 57] (.reg [oM 58 8,oM 59 1,oF 60 2 10,oL 61 60,oI 62 1 59 61,oL 63 62,oB 64 .add 58 63,oM 8 64]))) (.reg [oC 65 .add 54 1,oM 54 65])))
def lI:C:=oR [oB 36 .lss 35 34] (.seq (oD 36 .skip (.exit 1)) (.seq (.block 2 (oR [oI 37 13 33 35,oA 38 13 37,oY 7 zzh,oV 13 7 38] (.reg [oM 39 5,oM 40 1,oF 41 2 7,oL 42 41,oI 43 1 40 42,oL 44 43,oB 45 .mul 39 44,oS 46 (.mm false (.c (.int .i64 2)) (.t 45)),oM 5 46]))) (.reg [oC 47 .add 35 1,oM 35 47])))
def WA:MA:=⟨(oR [oQ 2 10 0,oJ 4 0] (.seq (oR [oF 11 0 2,oL 12 11] (.block 0 (oR [oC 14 .eql 12 2,oM 13 14] (oD 13 (oR [oF 15 2 2,oL 16 15,oF 17 3 2,oL 18 17,oB 19 .eql 16 18] (oD 19 (oR [oJ 4 1] .ret) .skip)) (oR [oC 21 .eql 12 3,oM 20 21] (oD 20 (oR [oF 22 4 2,oL 23 22,oC 24 .eql 23 0] (oD 24 (oR [oJ 4 1] .ret) .skip)) (oR [oC 26 .eql 12 4,oM 25 26] (oD 25 (oR [oF 27 5 2,oL 28 27,oH 29 28,oM 4 29] .ret) (oR [oC 31 .eql 12 5,oM 30 31] (oD 30 (oR [oJ 5 1] (.seq (oR [oF 32 6 2,oL 33 32,oH 34 33,oJ 35 0] (.block 1 (.loop lI))) (oR [oM 48 5,oM 4 48] .ret))) (oR [oC 50 .eql 12 6,oM 49 50] (oD 49 (oR [oJ 8 0] (.seq (oR [oF 51 6 2,oL 52 51,oH 53 52,oJ 54 0] (.block 3 (.loop kI))) (oR [oM 66 8,oM 4 66] .ret))) (oR [oC 68 .eql 12 7,oM 67 68] (oD 67 (oR [oF 69 4 2,oL 70 69,oC 71 .eql 70 0,oM 72 71,oMg 73 1 72 false,oFg 74 8 2 72 false,oP 75 74 72 false,oIg 76 1 73 75 72 false,oP 77 76 72 false,oCi 78 .eql 77 0 72 false,oPo 79 72 78] (oD 79 (oR [oJ 4 1] .ret) .skip)) (oR [oC 81 .eql 12 8,oM 80 81] (oD 80 (oR [oF 82 4 2,oL 83 82,oC 84 .eql 83 0,oM 85 84,oMg 86 1 85 false,oFg 87 8 2 85 false,oP 88 87 85 false,oIg 89 1 86 88 85 false,oP 90 89 85 false,oCi 91 .eql 90 0 85 false,oPo 92 85 91,oM 93 92,oMg 94 1 93 false,oFg 95 7 2 93 false,oP 96 95 93 false,oIg 97 1 94 96 93 false,oP 98 97 93 false,oCi 99 .eql 98 0 93 false,oPo 100 93 99] (oD 100 (oR [oJ 4 1] .ret) .skip)) (oR [oC 102 .eql 12 9,oM 101 102] (oD 101 (oR [oM 103 1,oF 104 8 2,oL 105 104,oI 106 1 103 105,oL 107 106,oS 108 (.bin .add false (.c (.int .i64 1)) (.t 107)),oM 4 108] .ret) .skip)))))))))))))))))) (oR [oJ 4 2] .ret))),[(.tmp 4)],2,[]⟩
theorem jU:cA Tryz.prog 76 WA:=okF Tryz.func76
noncomputable def OM:MA:=cF [] Tryz.f78
theorem bR:cA Tryz.prog 78 OM:=okF Tryz.func78
noncomputable def cN:MA:=cF [] Tryz.f79
theorem BS:cA Tryz.prog 79 cN:=okF Tryz.func79
def ID:C:=.seq (oR [oM 11 5,oM 12 0,oH 13 12,oB 14 .lss 11 13] (oD 14 .skip (.exit 0))) (.seq (.block 1 (oR [oM 17 0,oM 18 5,oI 19 8 17 18,oA 20 8 19,oM 21 1,oM 22 5,oI 23 8 21 22,oA 24 8 23,oC2 25 51 20 24,oU 26 25] (oD 26 (oR [oZ 4 false] .ret) .skip))) (.reg [oM 15 5,oC 16 .add 15 1,oM 5 16]))
def PE:MA:=⟨(oR [oZ 4 false] (.seq (oR [oM 6 0,oH 7 6,oM 8 1,oH 9 8,oB 10 .neq 7 9] (oD 10 (oR [oZ 4 false] .ret) .skip)) (.seq (oR [oJ 5 0] (.block 0 (.loop ID))) (oR [oZ 4 true] .ret)))),[(.tmp 4)],2,[]⟩
theorem RQ:cA Tryz.prog 88 PE:=okF Tryz.func88
def FG:C:=.seq (oR [oM 32 9,oM 33 7,oB 34 .lss 32 33] (oD 34 .skip (.exit 0))) (.seq (.block 1 (oR [oA 37 1 3,oM 38 9,oC2 39 81 37 38,oC1 40 172 39] (oD 40 (oR [oM 41 9,oM 6 41] .ret) .skip))) (.reg [oM 35 9,oC 36 .add 35 1,oM 9 36]))
def DE:MA:=⟨(oR [oQ 3 1 0,oJ 6 0] (oR [oF 10 0 3,oL 11 10,oH 12 11,oM 7 12] (oR [oM 13 2,oS 14 (.conv (.some .i64) (.t 13)),oM 15 7,oB 16 .rem 14 15,oM 8 16] (.seq (oR [oA 17 1 3,oM 18 8,oC2 19 81 17 18,oC1 20 172 19,oM 21 20,oMg 22 8 21 false,oMg 23 1 21 false,oBg 24 .lss 22 23 21 false,oPo 25 21 24] (oD 25 (oR [oM 26 8,oM 6 26] .ret) .skip)) (.seq (oR [oM 27 1,oC 28 .gtr 27 0] (oD 28 (oR [oM 29 8,oM 30 1,oB 31 .rem 29 30,oM 6 31] .ret) .skip)) (.seq (oR [oJ 9 0] (.block 0 (.loop FG))) (oR [oJ 6 (-1)] .ret))))))),[(.tmp 6)],3,[]⟩
theorem iW:cA Tryz.prog 126 DE:=okF Tryz.func126
def CB:MA:=⟨(oR [oQ 3 1 0,oY 6 zza,oZ 7 false] (oR [oF 10 0 3,oL 11 10,oM 12 1,oI 13 5 11 12,oA 14 5 13,oY 8 zzd,oV 5 8 14] (oR [oA 15 1 3,oM 16 1,oC2 17 81 15 16,oS 18 (.build zza [(0,(1,(.t 17)))]),oY 9 zza,oV 8 9 18] (.seq (oR [oF 19 0 9,oL 20 19,oC 21 .eql 20 8,oM 22 21,oLg 23 1 3 22 true,oG 24 (.call .any 87 [(.t 23),(.c (.int .u8 0))]) 22 true,oCi 25 .lss 24 0 22 true,oPa 26 22 25] (oD 26 (.reg [oF 27 0 9,oN (.store .any false 1 (.t 27) (.c (.int .i64 7)))]) .skip)) (.seq (oR [oF 28 0 9,oL 29 28] (.block 0 (oR [oC 31 .eql 29 1,oM 30 31] (oD 30 (.reg [oM 32 2,oS 33 (.bin .rem false (.t 32) (.c (.int .u8 2))),oS 34 (.bin .eql false (.t 33) (.c (.int .u8 1))),oF 35 1 9,oW 35 34]) (oR [oC 37 .eql 29 2,oM 36 37] (oD 36 (.reg [oS 38 (.load (.root 8) true 5 (.t 8)),oS 39 (.call .imm 83 [(.t 38)]),oM 40 2,oS 41 (.conv (.some .i64) (.t 40)),oS 42 (.load (.root 8) true 5 (.t 8)),oS 43 (.call .imm 84 [(.t 42)]),oS 44 (.load (.root 8) true 5 (.t 8)),oS 45 (.call .imm 83 [(.t 44)]),oB 46 .sub 43 45,oC 47 .add 46 1,oB 48 .rem 41 47,oB 49 .add 39 48,oF 50 2 9,oN (.store (.root 9) false 1 (.t 50) (.t 49))]) (oR [oC 52 .eql 29 3,oM 51 52] (oD 51 (oR [oF 53 1 8,oL 54 53,oS 55 (.bin .rem false (.t 54) (.c (.int .u8 4))),oS 56 (.bin .gtr false (.t 55) (.c (.int .u8 0))),oM 57 56,oMg 58 2 57 true,oG 59 (.bin .rem false (.t 58) (.c (.int .u8 2))) 57 true,oG 60 (.bin .eql false (.t 59) (.c (.int .u8 1))) 57 true,oPa 61 57 60] (oD 61 (.reg [oF 62 3 9,oN (.store .any false 1 (.t 62) (.c (.str (ByteArray.mk #[97]))))]) .skip)) (oR [oC 64 .eql 29 4,oM 63 64] (oD 63 (.reg [oS 65 (.load (.root 8) true 5 (.t 8)),oS 66 (.call .imm 85 [(.t 65)]),oM 67 2,oS 68 (.conv (.some .i64) (.t 67)),oS 69 (.load (.root 8) true 5 (.t 8)),oS 70 (.call .imm 85 [(.t 69)]),oH 71 70,oB 72 .rem 68 71,oI 73 1 66 72,oS 74 (.load .imm false 1 (.t 73)),oF 75 4 9,oN (.store (.root 9) false 1 (.t 75) (.t 74))]) (.seq (oR [oC 77 .eql 29 5,oM 76 77] (oD 76 .skip (.reg [oC 78 .eql 29 6,oM 76 78]))) (oD 76 (oR [oS 79 (.build zza []),oV 8 6 79,oZ 7 false] .ret) .skip)))))))))))) (oR [oA 80 8 9,oV 8 6 80,oZ 7 true] .ret)))))),[(.cell 6 true 8),(.tmp 7)],3,[]⟩
theorem RU:cA Tryz.prog 127 CB:=okF Tryz.func127
def eI:MA:=⟨(oR [oZ 2 false] (oR [oM 3 0,oC 4 .geq 3 1,oM 5 4,oMg 6 0 5 true,oCi 7 .leq 6 4 5 true,oPa 8 5 7,oM 2 8] .ret)),[(.tmp 2)],1,[]⟩
theorem EU:cA Tryz.prog 118 eI:=okF Tryz.func118
noncomputable def sS:MA:=cF [] Tryz.f128
theorem TZ:cA Tryz.prog 128 sS:=okF Tryz.func128
def NA:MA:=⟨(oR [oQ 2 8 0,oQ 3 8 1,oJ 4 0] (.seq (oR [oF 5 0 2,oL 6 5,oF 7 0 3,oL 8 7,oB 9 .neq 6 8] (oD 9 (oR [oJ 4 0] .ret) .skip)) (.seq (oR [oF 10 0 2,oL 11 10] (.block 0 (oR [oC 13 .eql 11 1,oM 12 13] (oD 12 (oR [oF 14 1 3,oL 15 14,oF 16 1 2,oL 17 16,oF 18 1 3,oL 19 18,oS 20 (.bin .eql true (.t 17) (.t 19)),oC2 21 173 15 20,oM 4 21] .ret) (oR [oC 23 .eql 11 2,oM 22 23] (oD 22 (oR [oF 24 2 2,oL 25 24,oC1 26 174 25,oF 27 2 3,oL 28 27,oC1 29 174 28,oB 30 .lss 26 29,oF 31 2 2,oL 32 31,oF 33 2 3,oL 34 33,oB 35 .eql 32 34,oC2 36 173 30 35,oM 4 36] .ret) (oR [oC 38 .eql 11 3,oM 37 38] (oD 37 (.seq (oR [oF 39 3 2,oL 40 39,oS 41 (.len true (.t 40)),oF 42 3 3,oL 43 42,oS 44 (.len true (.t 43)),oB 45 .neq 41 44] (oD 45 (oR [oF 46 3 2,oL 47 46,oS 48 (.len true (.t 47)),oF 49 3 3,oL 50 49,oS 51 (.len true (.t 50)),oB 52 .lss 48 51,oS 53 (.call .any 173 [(.t 52),(.c (.bool false))]),oM 4 53] .ret) .skip)) (oR [oF 54 3 2,oL 55 54,oF 56 3 3,oL 57 56,oB 58 .lss 55 57,oF 59 3 2,oL 60 59,oF 61 3 3,oL 62 61,oB 63 .eql 60 62,oC2 64 173 58 63,oM 4 64] .ret)) (oR [oC 66 .eql 11 4,oM 65 66] (oD 65 (oR [oF 67 4 2,oL 68 67,oF 69 4 3,oL 70 69,oB 71 .lss 68 70,oF 72 4 2,oL 73 72,oF 74 4 3,oL 75 74,oB 76 .eql 73 75,oC2 77 173 71 76,oM 4 77] .ret) .skip)))))))))) (oR [oJ 4 0] .ret)))),[(.tmp 4)],2,[]⟩
theorem IU:cA Tryz.prog 129 NA:=okF Tryz.func129
def eJ:C:=.seq (oR [oM 260 15,oF 261 5 6,oL 262 261,oH 263 262,oB 264 .lss 260 263] (oD 264 .skip (.exit 3))) (.seq (.block 4 (oR [oF 267 5 6,oL 268 267,oM 269 15,oC 270 .sub 269 1,oI 271 8 268 270,oA 272 8 271,oF 273 5 6,oL 274 273,oM 275 15,oI 276 8 274 275,oA 277 8 276,oC2 278 129 272 277,oC 279 .geq 278 0] (oD 279 (oR [oZ 8 false] .ret) .skip))) (.reg [oM 265 15,oC 266 .add 265 1,oM 15 266]))
def rJ:C:=.seq (oR [oM 115 12,oF 116 6 6,oL 117 116,oH 118 117,oB 119 .lss 115 118] (oD 119 .skip (.exit 1))) (.seq (.block 2 (oR [oA 122 1 4,oF 123 6 9,oL 124 123,oM 125 12,oI 126 13 124 125,oF 127 2 126,oL 128 127,oF 129 6 6,oL 130 129,oM 131 12,oI 132 8 130 131,oA 133 8 132,oM 134 3,oC4 135 130 122 128 133 134,oU 136 135] (oD 136 (oR [oZ 8 false] .ret) .skip))) (.reg [oM 120 12,oC 121 .add 120 1,oM 12 121]))
def mA:MA:=⟨(oR [oQ 4 1 0,oQ 6 8 2,oZ 8 false] (.seq (oR [oM 16 1,oC 17 .lss 16 0,oM 18 17,oMg 19 1 18 false,oFg 20 0 4 18 false,oP 21 20 18 false,oHg 22 21 18 false,oBg 23 .geq 19 22 18 false,oPo 24 18 23] (oD 24 (oR [oZ 8 false] .ret) .skip)) (oR [oF 25 0 4,oL 26 25,oM 27 1,oI 28 10 26 27,oA 29 10 28,oY 9 zze,oV 10 9 29] (.seq (oR [oF 30 0 6,oL 31 30,oF 32 0 9,oL 33 32,oB 34 .neq 31 33,oM 35 34,oLg 36 8 6 35 false,oG 37 (.call .any 175 [(.t 36)]) 35 false,oUg 38 37 35 false,oPo 39 35 38,oM 40 39,oMg 41 3 40 false,oMg 42 41 40 false,oFg 43 7 6 42 true,oP 44 43 42 true,oHg 45 44 42 true,oCi 46 .gtr 45 0 42 true,oPb 47 42 46 40 false,oPo 48 40 47] (oD 48 (oR [oZ 8 false] .ret) .skip)) (.seq (oR [oF 49 0 9,oL 50 49] (.block 0 (oR [oC 52 .eql 50 1,oM 51 52] (oD 51 (oR [oZ 8 true] .ret) (oR [oC 54 .eql 50 2,oM 53 54] (oD 53 (oR [oF 55 2 6,oL 56 55,oF 57 2 9,oL 58 57,oB 59 .geq 56 58,oM 60 59,oFg 61 2 6 60 true,oP 62 61 60 true,oFg 63 3 9 60 true,oP 64 63 60 true,oBg 65 .leq 62 64 60 true,oPa 66 60 65,oM 8 66] .ret) (oR [oC 68 .eql 50 3,oM 67 68] (oD 67 (oR [oF 69 3 6,oL 70 69,oS 71 (.len true (.t 70)),oF 72 4 9,oL 73 72,oB 74 .leq 71 73,oM 8 74] .ret) (oR [oC 76 .eql 50 4,oM 75 76] (oD 75 (oR [oA 78 10 9,oF 79 4 6,oL 80 79,oC2 81 98 78 80,oM 77 81,oX 82 77 0,oX 83 77 1,oM 10 82,oM 11 83] (oR [oM 84 11,oM 85 84,oFg 86 9 9 85 false,oP 87 86 85 false,oMg 88 87 85 false,oMg 89 3 88 true,oUg 90 89 88 true,oPb 91 88 90 85 false,oMg 92 91 85 false,oFg 93 4 6 92 true,oP 94 93 92 true,oMg 95 11 92 true,oCg 96 176 94 95 92 true,oPb 97 92 96 85 false,oPo 98 85 97,oM 8 98] .ret)) (oR [oC 100 .eql 50 5,oM 99 100] (oD 99 (.seq (oR [oF 101 6 6,oL 102 101,oH 103 102,oF 104 6 9,oL 105 104,oH 106 105,oB 107 .neq 103 106,oM 108 107,oLg 109 10 9 108 false,oFg 110 7 6 108 false,oP 111 110 108 false,oCg 112 177 109 111 108 false,oUg 113 112 108 false,oPo 114 108 113] (oD 114 (oR [oZ 8 false] .ret) .skip)) (.seq (oR [oJ 12 0] (.block 1 (.loop rJ))) (oR [oZ 8 true] .ret))) (oR [oC 138 .eql 50 6,oM 137 138] (oD 137 (oR [oA 140 10 9,oF 141 4 6,oL 142 141,oC2 143 131 140 142,oM 139 143,oX 144 139 0,oX 145 139 1,oM 13 144,oM 14 145] (.seq (oR [oM 146 14] (oD 146 (oR [oF 147 6 6,oL 148 147,oH 149 148,oC 150 .eql 149 1,oM 151 150,oFg 152 7 6 151 true,oP 153 152 151 true,oHg 154 153 151 true,oCi 155 .eql 154 0 151 true,oPa 156 151 155,oM 157 156,oLg 158 1 4 157 true,oFg 159 6 9 157 true,oP 160 159 157 true,oMg 161 13 157 true,oIg 162 13 160 161 157 true,oFg 163 2 162 157 true,oP 164 163 157 true,oFg 165 6 6 157 true,oP 166 165 157 true,oG 167 (.iaddr 8 (.t 166) (.c (.int .i64 0))) 157 true,oLg 168 8 167 157 true,oMg 169 3 157 true,oG 170 (.call .any 130 [(.t 158),(.t 164),(.t 168),(.t 169)]) 157 true,oPa 171 157 170,oM 8 171] .ret) .skip)) (oR [oF 172 9 9,oL 173 172,oM 174 173,oMg 175 3 174 true,oUg 176 175 174 true,oPa 177 174 176,oM 178 177,oFg 179 4 6 178 true,oP 180 179 178 true,oMg 181 14 178 true,oCg 182 176 180 181 178 true,oPa 183 178 182,oM 184 183,oFg 185 6 6 184 true,oP 186 185 184 true,oHg 187 186 184 true,oCi 188 .eql 187 0 184 true,oPa 189 184 188,oM 190 189,oFg 191 7 6 190 true,oP 192 191 190 true,oHg 193 192 190 true,oCi 194 .eql 193 1 190 true,oPa 195 190 194,oM 196 195,oFg 197 7 6 196 true,oP 198 197 196 true,oG 199 (.iaddr 2 (.t 198) (.c (.int .i64 0))) 196 true,oFg 200 0 199 196 true,oP 201 200 196 true,oFg 202 4 6 196 true,oP 203 202 196 true,oBg 204 .eql 201 203 196 true,oPa 205 196 204,oM 8 205] .ret))) (oR [oC 207 .eql 50 7,oM 206 207] (oD 206 (oR [oF 208 6 6,oL 209 208,oH 210 209,oF 211 4 9,oL 212 211,oB 213 .leq 210 212,oM 214 213,oLg 215 1 4 214 true,oFg 216 8 9 214 true,oP 217 216 214 true,oFg 218 6 6 214 true,oP 219 218 214 true,oMg 220 3 214 true,oG 221 (.call .any 178 [(.t 215),(.t 217),(.t 219),(.t 220)]) 214 true,oPa 222 214 221,oM 8 222] .ret) (oR [oC 224 .eql 50 8,oM 223 224] (oD 223 (.seq (oR [oF 225 5 6,oL 226 225,oH 227 226,oF 228 4 9,oL 229 228,oB 230 .gtr 227 229,oM 231 230,oFg 232 6 6 231 false,oP 233 232 231 false,oHg 234 233 231 false,oFg 235 5 6 231 false,oP 236 235 231 false,oHg 237 236 231 false,oBg 238 .neq 234 237 231 false,oPo 239 231 238,oM 240 239,oLg 241 1 4 240 false,oFg 242 7 9 240 false,oP 243 242 240 false,oFg 244 5 6 240 false,oP 245 244 240 false,oMg 246 3 240 false,oG 247 (.call .any 178 [(.t 241),(.t 243),(.t 245),(.t 246)]) 240 false,oUg 248 247 240 false,oPo 249 240 248,oM 250 249,oLg 251 1 4 250 false,oFg 252 8 9 250 false,oP 253 252 250 false,oFg 254 6 6 250 false,oP 255 254 250 false,oMg 256 3 250 false,oG 257 (.call .any 178 [(.t 251),(.t 253),(.t 255),(.t 256)]) 250 false,oUg 258 257 250 false,oPo 259 250 258] (oD 259 (oR [oZ 8 false] .ret) .skip)) (.seq (oR [oJ 15 1] (.block 3 (.loop eJ))) (oR [oZ 8 true] .ret))) .skip)))))))))))))))))) (oR [oF 280 6 6,oL 281 280,oH 282 281,oC 283 .leq 282 1,oM 284 283,oLg 285 1 4 284 true,oFg 286 8 9 284 true,oP 287 286 284 true,oFg 288 6 6 284 true,oP 289 288 284 true,oMg 290 3 284 true,oG 291 (.call .any 178 [(.t 285),(.t 287),(.t 289),(.t 290)]) 284 true,oPa 292 284 291,oM 8 292] .ret)))))),[(.tmp 8)],4,[]⟩
theorem J4:cA Tryz.prog 130 mA:=okF Tryz.func130
def SG:C:=.seq (oR [oM 7 6,oF 8 6 2,oL 9 8,oH 10 9,oB 11 .lss 7 10] (oD 11 .skip (.exit 0))) (.seq (.block 1 (oR [oF 14 6 2,oL 15 14,oM 16 6,oI 17 13 15 16,oF 18 0 17,oL 19 18,oM 20 1,oB 21 .eql 19 20] (oD 21 (oR [oM 22 6,oM 4 22,oZ 5 true] .ret) .skip))) (.reg [oM 12 6,oC 13 .add 12 1,oM 6 13]))
def BI:MA:=⟨(oR [oQ 2 10 0,oJ 4 0,oZ 5 false] (.seq (oR [oJ 6 0] (.block 0 (.loop SG))) (oR [oJ 4 0,oZ 5 false] .ret))),[(.tmp 4),(.tmp 5)],2,[]⟩
theorem rW:cA Tryz.prog 131 BI:=okF Tryz.func131
def FE:C:=.seq (oR [oM 202 19,oF 203 7 5,oL 204 203,oH 205 204,oB 206 .lss 202 205] (oD 206 .skip (.exit 7))) (.seq (.block 8 (oR [oF 209 7 5,oL 210 209,oM 211 19,oI 212 2 210 211,oF 213 0 212,oL 214 213,oM 215 15,oB 216 .eql 214 215] (oD 216 (.reg [oM 217 14,oM 218 15,oF 219 7 5,oL 220 219,oM 221 19,oI 222 2 220 221,oF 223 1 222,oL 224 223,oS 225 (.call .any 182 [(.t 218),(.c (.bool false)),(.t 224)]),oB 226 .add 217 225,oM 14 226]) .skip))) (.reg [oM 207 19,oC 208 .add 207 1,oM 19 208]))
def fD:C:=.seq (oR [oM 157 15,oC 158 .leq 157 1000] (oD 158 .skip (.exit 5))) (.seq (.block 6 (.seq (oR [oA 162 10 7,oM 163 15,oC2 164 131 162 163,oM 161 164,oX 165 161 0,oX 166 161 1,oM 16 165,oM 17 166] (oR [oM 167 17] (oD 167 (oR [oF 168 6 7,oL 169 168,oM 170 16,oI 171 13 169 170,oA 172 13 171,oY 18 zzh,oV 13 18 172] (oR [oF 173 4 18,oL 174 173,oU 175 174,oM 176 175,oFg 177 6 5 176 false,oP 178 177 176 false,oMg 179 16 176 false,oIg 180 8 178 179 176 false,oLg 181 8 180 176 false,oFg 182 5 18 176 false,oLg 183 8 182 176 false,oCg 184 51 181 183 176 false,oUg 185 184 176 false,oPo 186 176 185] (oD 186 (.reg [oM 187 14,oM 188 15,oF 189 3 18,oL 190 189,oA 191 1 3,oF 192 2 18,oL 193 192,oF 194 6 5,oL 195 194,oM 196 16,oI 197 8 195 196,oA 198 8 197,oS 199 (.call .any 132 [(.t 191),(.t 193),(.t 198)]),oS 200 (.call .any 182 [(.t 188),(.t 190),(.t 199)]),oB 201 .add 187 200,oM 14 201]) .skip))) .skip))) (oR [oJ 19 0] (.block 7 (.loop FE))))) (.reg [oM 159 15,oC 160 .add 159 1,oM 15 160]))
def zI:C:=.seq (oR [oM 126 13,oF 127 6 5,oL 128 127,oH 129 128,oB 130 .lss 126 129] (oD 130 .skip (.exit 3))) (.seq (.block 4 (.reg [oM 133 12,oA 134 1 3,oF 135 7 7,oL 136 135,oF 137 5 5,oL 138 137,oM 139 13,oI 140 8 138 139,oA 141 8 140,oS 142 (.call .any 132 [(.t 134),(.t 136),(.t 141)]),oC1 143 181 142,oB 144 .add 133 143,oA 145 1 3,oF 146 8 7,oL 147 146,oF 148 6 5,oL 149 148,oM 150 13,oI 151 8 149 150,oA 152 8 151,oS 153 (.call .any 132 [(.t 145),(.t 147),(.t 152)]),oC1 154 181 153,oB 155 .add 144 154,oM 12 155])) (.reg [oM 131 13,oC 132 .add 131 1,oM 13 132]))
def xI:C:=.seq (oR [oM 104 11,oF 105 6 5,oL 106 105,oH 107 106,oB 108 .lss 104 107] (oD 108 .skip (.exit 1))) (.seq (.block 2 (.reg [oM 111 10,oA 112 1 3,oF 113 8 7,oL 114 113,oF 115 6 5,oL 116 115,oM 117 11,oI 118 8 116 117,oA 119 8 118,oS 120 (.call .any 132 [(.t 112),(.t 114),(.t 119)]),oC1 121 181 120,oB 122 .add 111 121,oM 10 122])) (.reg [oM 109 11,oC 110 .add 109 1,oM 11 110]))
def SA:MA:=⟨(oR [oQ 3 1 0,oQ 5 8 2,oS 6 (.mv (.c (.str (ByteArray.mk #[]))))] (oR [oF 20 0 3,oL 21 20,oM 22 1,oI 23 10 21 22,oA 24 10 23,oY 7 zze,oV 10 7 24] (.seq (oR [oF 25 0 7,oL 26 25] (.block 0 (oR [oC 28 .eql 26 1,oM 27 28] (oD 27 (.seq (oR [oF 29 1 5,oL 30 29] (oD 30 (oR [oS 6 (.mv (.c (.str (ByteArray.mk #[1]))))] .ret) .skip)) (oR [oS 6 (.mv (.c (.str (ByteArray.mk #[]))))] .ret)) (oR [oC 32 .eql 26 2,oM 31 32] (oD 31 (oR [oF 33 2 5,oL 34 33,oC1 35 174 34,oC1 36 179 35,oM 6 36] .ret) (oR [oC 38 .eql 26 3,oM 37 38] (oD 37 (oR [oF 39 3 5,oL 40 39,oM 6 40] .ret) (oR [oC 42 .eql 26 4,oM 41 42] (oD 41 (oR [oF 43 4 5,oL 44 43,oS 45 (.conv (.some .u64) (.t 44)),oC1 46 179 45,oM 6 46] .ret) (oR [oC 48 .eql 26 9,oM 47 48] (oD 47 (.seq (oR [oF 49 6 5,oL 50 49,oH 51 50,oC 52 .eql 51 0] (oD 52 (oR [oS 6 (.mv (.c (.str (ByteArray.mk #[]))))] .ret) .skip)) (oR [oA 53 1 3,oF 54 8 7,oL 55 54,oF 56 6 5,oL 57 56,oS 58 (.iaddr 8 (.t 57) (.c (.int .i64 0))),oA 59 8 58,oS 60 (.call .any 132 [(.t 53),(.t 55),(.t 59)]),oS 61 (.bin .add false (.c (.str (ByteArray.mk #[1]))) (.t 60)),oM 6 61] .ret)) (oR [oC 63 .eql 26 6,oM 62 63] (oD 62 (.seq (oR [oF 64 7 5,oL 65 64,oH 66 65,oC 67 .gtr 66 0] (oD 67 (oR [oF 68 4 5,oL 69 68,oS 70 (.conv (.some .u64) (.t 69)),oC1 71 180 70,oF 72 7 5,oL 73 72,oS 74 (.iaddr 2 (.t 73) (.c (.int .i64 0))),oF 75 1 74,oL 76 75,oB 77 .add 71 76,oM 6 77] .ret) .skip)) (oR [oA 79 10 7,oF 80 4 5,oL 81 80,oC2 82 131 79 81,oM 78 82,oX 83 78 0,oX 84 78 1,oM 8 83,oM 9 84] (oR [oF 85 4 5,oL 86 85,oS 87 (.conv (.some .u64) (.t 86)),oC1 88 180 87,oA 89 1 3,oF 90 6 7,oL 91 90,oM 92 8,oI 93 13 91 92,oF 94 2 93,oL 95 94,oF 96 6 5,oL 97 96,oS 98 (.iaddr 8 (.t 97) (.c (.int .i64 0))),oA 99 8 98,oS 100 (.call .any 132 [(.t 89),(.t 95),(.t 99)]),oB 101 .add 88 100,oM 6 101] .ret))) (oR [oC 103 .eql 26 7,oM 102 103] (oD 102 (oR [oS 10 (.mv (.c (.str (ByteArray.mk #[]))))] (.seq (oR [oJ 11 0] (.block 1 (.loop xI))) (oR [oM 123 10,oM 6 123] .ret))) (oR [oC 125 .eql 26 8,oM 124 125] (oD 124 (oR [oS 12 (.mv (.c (.str (ByteArray.mk #[]))))] (.seq (oR [oJ 13 0] (.block 3 (.loop zI))) (oR [oM 156 12,oM 6 156] .ret))) .skip)))))))))))))))))) (oR [oS 14 (.mv (.c (.str (ByteArray.mk #[]))))] (.seq (oR [oJ 15 1] (.block 5 (.loop fD))) (oR [oM 227 14,oM 6 227] .ret)))))),[(.tmp 6)],3,[]⟩
theorem OU:cA Tryz.prog 132 SA:=okF Tryz.func132
def GG:MA:=⟨(oR [oQ 2 13 0,oQ 3 8 1,oZ 4 false] (oR [oF 5 4 2,oL 6 5,oM 7 6,oFg 8 5 2 7 true,oLg 9 8 8 7 true,oLg 10 8 3 7 true,oCg 11 23 9 10 7 true,oPa 12 7 11,oM 4 12] .ret)),[(.tmp 4)],2,[]⟩
theorem OR:cA Tryz.prog 133 GG:=okF Tryz.func133
def pI:MA:=⟨(oR [oQ 2 10 0,oQ 3 1 1,oJ 4 0,oZ 5 false] (oR [oF 7 5 2,oL 8 7,oS 9 (.mkf 184 [(.t 3)]),oC2 10 183 8 9,oM 6 10] (oR [oM 11 6,oS 12 (.mm true (.t 11) (.c (.int .i64 0))),oM 13 6,oC 14 .geq 13 0,oM 4 12,oM 5 14] .ret))),[(.tmp 4),(.tmp 5)],2,[]⟩
theorem DU:cA Tryz.prog 134 pI:=okF Tryz.func134
def aF:MA:=⟨(oR [oQ 5 1 0,oQ 7 8 2,oQ 8 1 3,oY 10 zza,oJ 11 0] (.seq (oR [oA 16 1 5,oM 17 1,oA 18 8 7,oA 19 1 8,oM 20 4,oS 21 (.call .any 185 [(.t 16),(.t 17),(.t 18),(.t 19),(.t 20)]),oM 12 21] (oR [oM 22 12,oC 23 .neq 22 0] (oD 23 (oR [oS 24 (.build zza []),oM 25 12,oV 8 10 24,oM 11 25] .ret) .skip))) (oR [oA 26 1 5,oA 27 1 8,oS 28 (.build zzi [(0,(1,(.t 26))),(1,(1,(.t 27)))]),oQ 29 4 28,oM 13 29] (oR [oM 31 13,oM 32 1,oA 33 8 7,oM 34 4,oS 35 (.callr .any 186 [(.t 31),(.t 32),(.t 33),(.t 34)]),oM 30 35,oX 36 30 0,oX 37 30 1,oY 14 zza,oV 8 14 36,oM 15 37] (.seq (oR [oM 38 15,oU 39 38] (oD 39 (oR [oS 40 (.build zza []),oV 8 10 40,oJ 11 12] .ret) .skip)) (oR [oA 41 8 14,oV 8 10 41,oJ 11 0] .ret)))))),[(.cell 10 true 8),(.tmp 11)],5,[71]⟩
theorem ER:cA Tryz.prog 135 aF:=okF Tryz.func135
def qD:MA:=⟨(oR [oQ 2 8 0,oQ 3 8 1,oZ 4 false] (oR [oF 5 0 2,oL 6 5,oF 7 0 3,oL 8 7,oB 9 .eql 6 8,oM 10 9,oFg 11 1 2 10 true,oP 12 11 10 true,oFg 13 1 3 10 true,oP 14 13 10 true,oG 15 (.bin .eql true (.t 12) (.t 14)) 10 true,oPa 16 10 15,oM 17 16,oFg 18 2 2 17 true,oP 19 18 17 true,oFg 20 2 3 17 true,oP 21 20 17 true,oBg 22 .eql 19 21 17 true,oPa 23 17 22,oM 24 23,oFg 25 3 2 24 true,oP 26 25 24 true,oFg 27 3 3 24 true,oP 28 27 24 true,oBg 29 .eql 26 28 24 true,oPa 30 24 29,oM 31 30,oFg 32 4 2 31 true,oP 33 32 31 true,oFg 34 4 3 31 true,oP 35 34 31 true,oBg 36 .eql 33 35 31 true,oPa 37 31 36,oM 38 37,oFg 39 7 2 38 true,oP 40 39 38 true,oFg 41 7 3 38 true,oP 42 41 38 true,oCg 43 187 40 42 38 true,oPa 44 38 43,oM 45 44,oFg 46 5 2 45 true,oP 47 46 45 true,oFg 48 5 3 45 true,oP 49 48 45 true,oG 50 (.call .any 188 [(.t 47),(.t 49),(.c (.fn 136 []))]) 45 true,oPa 51 45 50,oM 52 51,oFg 53 6 2 52 true,oP 54 53 52 true,oFg 55 6 3 52 true,oP 56 55 52 true,oG 57 (.call .any 188 [(.t 54),(.t 56),(.c (.fn 136 []))]) 52 true,oPa 58 52 57,oM 4 58] .ret)),[(.tmp 4)],2,[]⟩
theorem fY:cA Tryz.prog 136 qD:=okF Tryz.func136
def MC:C:=oR [oB 9 .lss 8 7] (.seq (oD 9 .skip (.exit 0)) (.seq (.block 1 (oR [oM 10 8,oM 5 10] (oR [oA 11 2 3,oM 12 0,oM 13 5,oI 14 2 12 13,oA 15 2 14,oS 16 (.eqa false [0,0] (.t 11) (.t 15))] (oD 16 (oR [oM 17 5,oM 4 17] .ret) .skip)))) (.reg [oC 18 .add 8 1,oM 8 18])))
def NE:MA:=⟨(oR [oQ 3 2 1,oJ 4 0] (.seq (oR [oM 6 0,oH 7 6,oJ 8 0] (.block 0 (.loop MC))) (oR [oJ 4 (-1)] .ret))),[(.tmp 4)],2,[]⟩
theorem hO:cA Tryz.prog 137 NE:=okF Tryz.func137
def xC:C:=oR [oB 9 .lss 8 7] (.seq (oD 9 .skip (.exit 0)) (.seq (.block 1 (oR [oM 10 8,oM 5 10] (oR [oM 11 1,oM 12 0,oM 13 5,oI 14 13 12 13,oA 15 13 14,oS 16 (.callv .any (.t 11) [(.t 15)])] (oD 16 (oR [oM 17 5,oM 4 17] .ret) .skip)))) (.reg [oC 18 .add 8 1,oM 8 18])))
def LC:MA:=⟨(oR [oJ 4 0] (.seq (oR [oM 6 0,oH 7 6,oJ 8 0] (.block 0 (.loop xC))) (oR [oJ 4 (-1)] .ret))),[(.tmp 4)],2,[]⟩
theorem eK:cA Tryz.prog 138 LC:=okF Tryz.func138
def qG:MA:=⟨(oR [oQ 2 13 0,oZ 3 false] (oR [oF 4 0 2,oL 5 4,oL 6 1,oB 7 .eql 5 6,oM 3 7] .ret)),[(.tmp 3)],2,[]⟩
theorem OQ:cA Tryz.prog 139 qG:=okF Tryz.func139
noncomputable def SM:MA:=cF [] Tryz.f148
theorem QR:cA Tryz.prog 148 SM:=okF Tryz.func148
noncomputable def DM:MA:=cF [] Tryz.f149
theorem WR:cA Tryz.prog 149 DM:=okF Tryz.func149
def MH:MA:=⟨(oR [oZ 2 false] (oR [oM 3 0,oM 4 0,oB 5 .neq 3 4,oM 2 5] .ret)),[(.tmp 2)],1,[]⟩
theorem aU:cA Tryz.prog 150 MH:=okF Tryz.func150
def EA:MA:=⟨(oR [oQ 1 10 0,oZ 2 false] (.seq (oR [oF 3 0 1,oL 4 3,oC 5 .lss 4 1,oM 6 5,oFg 7 0 1 6 false,oP 8 7 6 false,oCi 9 .gtr 8 9 6 false,oPo 10 6 9,oM 11 10,oLg 12 10 1 11 false,oLg 13 10 1 11 false,oG 14 (.call .any 157 [(.t 13)]) 11 false,oCg 15 156 12 14 11 false,oUg 16 15 11 false,oPo 17 11 16,oM 18 17,oFg 19 0 1 18 false,oP 20 19 18 false,oG 21 (.call .any 82 [(.t 20)]) 18 false,oMg 22 21 18 false,oFg 23 1 1 22 true,oP 24 23 22 true,oG 25 (.call .any 158 [(.t 24)]) 22 true,oUg 26 25 22 true,oPb 27 22 26 18 false,oPo 28 18 27] (oD 28 (oR [oZ 2 false] .ret) .skip)) (.seq (oR [oF 29 0 1,oL 30 29] (.block 0 (oR [oC 32 .eql 30 2,oM 31 32] (oD 31 (oR [oF 33 2 1,oL 34 33,oF 35 3 1,oL 36 35,oB 37 .leq 34 36,oM 2 37] .ret) (oR [oC 39 .eql 30 3,oM 38 39] (oD 38 (oR [oF 40 4 1,oL 41 40,oC 42 .geq 41 0,oM 43 42,oFg 44 4 1 43 true,oP 45 44 43 true,oCi 46 .leq 45 200 43 true,oPa 47 43 46,oM 2 47] .ret) (oR [oC 49 .eql 30 4,oM 48 49] (oD 48 (oR [oF 50 5 1,oL 51 50,oC1 52 159 51,oM 2 52] .ret) (.seq (oR [oC 54 .eql 30 5,oM 53 54] (oD 53 .skip (.reg [oC 55 .eql 30 6,oM 53 55]))) (oD 53 (oR [oF 56 6 1,oL 57 56,oF 58 0 1,oL 59 58,oC 60 .eql 59 5,oC2 61 160 57 60,oM 2 61] .ret) (.seq (oR [oC 63 .eql 30 7,oM 62 63] (oD 62 .skip (.reg [oC 64 .eql 30 8,oM 62 64]))) (oD 62 (oR [oF 65 4 1,oL 66 65,oC 67 .geq 66 0,oM 68 67,oFg 69 4 1 68 true,oP 70 69 68 true,oCi 71 .leq 70 50 68 true,oPa 72 68 71,oM 2 72] .ret) .skip)))))))))))) (oR [oZ 2 true] .ret)))),[(.tmp 2)],1,[]⟩
theorem G4:cA Tryz.prog 116 EA:=okF Tryz.func116
def fG:C:=.seq (oR [oM 5 4,oF 6 6 1,oL 7 6,oH 8 7,oB 9 .lss 5 8] (oD 9 .skip (.exit 0))) (.seq (.block 1 (.reg [oM 12 3,oF 13 6 1,oL 14 13,oM 15 4,oI 16 13 14 15,oF 17 2 16,oL 18 17,oS 19 (.bsl [(.int .i64 0)] 1 [(0,(.t 18))]),oAp 20 3 1 8 12 19,oM 3 20])) (.reg [oM 10 4,oC 11 .add 10 1,oM 4 11]))
def lL:MA:=⟨(oR [oQ 1 10 0,oS 2 (.mv (.c (.sl true [])))] (oR [oS 3 (.mv (.c (.sl true [])))] (.seq (oR [oJ 4 0] (.block 0 (.loop fG))) (.seq (oR [oF 21 0 1,oL 22 21,oC 23 .eql 22 8] (oD 23 (.reg [oM 24 3,oF 25 7 1,oL 26 25,oS 27 (.bsl [(.int .i64 0)] 1 [(0,(.t 26))]),oAp 28 3 1 8 24 27,oM 3 28]) .skip)) (.seq (oR [oF 29 0 1,oL 30 29,oC 31 .eql 30 7,oM 32 31,oFg 33 0 1 32 false,oP 34 33 32 false,oCi 35 .eql 34 8 32 false,oPo 36 32 35,oM 37 36,oFg 38 0 1 37 false,oP 39 38 37 false,oCi 40 .eql 39 9 37 false,oPo 41 37 40] (oD 41 (.reg [oM 42 3,oF 43 8 1,oL 44 43,oS 45 (.bsl [(.int .i64 0)] 1 [(0,(.t 44))]),oAp 46 3 1 8 42 45,oM 3 46]) .skip)) (oR [oM 47 3,oM 2 47] .ret)))))),[(.tmp 2)],1,[]⟩
theorem QZ:cA Tryz.prog 117 lL:=okF Tryz.func117
def bA:MA:=⟨(oR [oQ 1 10 0,oZ 2 false] (oR [oA 5 10 1,oY 3 zze,oV 10 3 5] (oR [oF 6 0 3,oN (.store .any false 1 (.t 6) (.c (.int .i64 0)))] (oR [oZ 4 true] (.seq (oR [oF 7 0 1,oL 8 7] (.block 0 (oR [oC 10 .eql 8 1,oM 9 10] (oD 9 .skip (oR [oC 12 .eql 8 2,oM 11 12] (oD 11 (oR [oF 13 2 1,oL 14 13,oF 15 3 1,oL 16 15,oB 17 .leq 14 16,oM 4 17] (.reg [oF 18 2 3,oN (.store .any false 1 (.t 18) (.c (.int .i64 0))),oF 19 3 3,oN (.store .any false 1 (.t 19) (.c (.int .i64 0)))])) (oR [oC 21 .eql 8 3,oM 20 21] (oD 20 (oR [oF 22 4 1,oL 23 22,oC 24 .geq 23 0,oM 25 24,oFg 26 4 1 25 true,oP 27 26 25 true,oCi 28 .leq 27 200 25 true,oPa 29 25 28,oM 4 29] (.reg [oF 30 4 3,oN (.store .any false 1 (.t 30) (.c (.int .i64 0)))])) (oR [oC 32 .eql 8 4,oM 31 32] (oD 31 (oR [oF 33 1 1,oL 34 33,oC1 35 161 34,oM 36 35,oFg 37 5 1 36 true,oP 38 37 36 true,oG 39 (.call .any 162 [(.t 38)]) 36 true,oPa 40 36 39,oM 4 40] (.reg [oF 41 1 3,oN (.store .any false 1 (.t 41) (.c (.str (ByteArray.mk #[])))),oF 42 5 3,oN (.store .any false 1 (.t 42) (.c (.sl true []))),oF 43 9 3,oN (.store .any false 1 (.t 43) (.c (.bool false)))])) (.seq (oR [oC 45 .eql 8 5,oM 44 45] (oD 44 .skip (.reg [oC 46 .eql 8 6,oM 44 46]))) (oD 44 (oR [oF 47 1 1,oL 48 47,oC1 49 161 48,oM 50 49,oLg 51 10 1 50 true,oG 52 (.call .any 163 [(.t 51)]) 50 true,oPa 53 50 52,oM 4 53] (oR [oF 54 1 3,oN (.store .any false 1 (.t 54) (.c (.str (ByteArray.mk #[])))),oF 55 6 3,oN (.store .any false 1 (.t 55) (.c (.sl true [])))] (.reg [oF 56 9 1,oL 57 56,oM 58 57,oFg 59 0 1 58 true,oP 60 59 58 true,oCi 61 .eql 60 5 58 true,oPa 62 58 61,oF 63 9 3,oW 63 62]))) (.seq (oR [oC 65 .eql 8 7,oM 64 65] (oD 64 .skip (.reg [oC 66 .eql 8 8,oM 64 66]))) (oD 64 (oR [oF 67 4 1,oL 68 67,oC 69 .geq 68 0,oM 70 69,oFg 71 4 1 70 true,oP 72 71 70 true,oCi 73 .leq 72 50 70 true,oPa 74 70 73,oM 4 74] (oR [oF 75 4 3,oN (.store .any false 1 (.t 75) (.c (.int .i64 0))),oF 76 8 3,oN (.store .any false 1 (.t 76) (.c (.int .i64 0)))] (oR [oF 77 0 1,oL 78 77,oC 79 .eql 78 8] (oD 79 (.reg [oF 80 7 3,oN (.store .any false 1 (.t 80) (.c (.int .i64 0)))]) .skip)))) (oR [oC 82 .eql 8 9,oM 81 82] (oD 81 (.reg [oF 83 8 3,oN (.store .any false 1 (.t 83) (.c (.int .i64 0)))]) (oR [oZ 2 false] .ret))))))))))))))))) (oR [oM 84 4,oM 85 84,oLg 86 10 3 85 true,oG 87 (.build zze []) 85 true,oCg 88 164 86 87 85 true,oPa 89 85 88,oM 2 89] .ret)))))),[(.tmp 2)],1,[]⟩
theorem aY:cA Tryz.prog 119 bA:=okF Tryz.func119
def AF:C:=oR [oB 10 .lss 9 8] (.seq (oD 10 .skip (.exit 0)) (.seq (.block 1 (oR [oI 11 13 7 9,oA 12 13 11,oY 5 zzh,oV 13 5 12] (.reg [oM 13 3,oF 14 2 5,oL 15 14,oS 16 (.bsl [(.int .i64 0)] 1 [(0,(.t 15))]),oAp 17 3 1 8 13 16,oM 3 17]))) (.reg [oC 18 .add 9 1,oM 9 18])))
def cK:MA:=⟨(oR [oQ 1 10 0,oS 2 (.mv (.c (.sl true [])))] (oR [oS 3 (.mv (.c (.sl true [])))] (.seq (oR [oF 6 6 1,oL 7 6,oH 8 7,oJ 9 0] (.block 0 (.loop AF))) (.seq (oR [oF 19 0 1,oL 20 19,oC 21 .eql 20 8] (oD 21 (.reg [oM 22 3,oF 23 7 1,oL 24 23,oS 25 (.bsl [(.int .i64 0)] 1 [(0,(.t 24))]),oAp 26 3 1 8 22 25,oM 3 26]) .skip)) (.seq (oR [oF 27 0 1,oL 28 27,oC 29 .geq 28 7] (oD 29 (.reg [oM 30 3,oF 31 8 1,oL 32 31,oS 33 (.bsl [(.int .i64 0)] 1 [(0,(.t 32))]),oAp 34 3 1 8 30 33,oM 3 34]) .skip)) (oR [oM 35 3,oM 2 35] .ret)))))),[(.tmp 2)],1,[]⟩
theorem dY:cA Tryz.prog 120 cK:=okF Tryz.func120
def bK:MA:=⟨(oR [oQ 3 1 0,oQ 5 8 2,oZ 6 false] (oR [oA 7 1 3,oM 8 1,oA 9 8 5,oS 10 (.call .any 165 [(.t 7),(.t 8),(.t 9),(.c (.bool true))]),oM 6 10] .ret)),[(.tmp 6)],3,[]⟩
theorem gY:cA Tryz.prog 121 bK:=okF Tryz.func121
noncomputable def PM:MA:=cF [] Tryz.f122
theorem nR:cA Tryz.prog 122 PM:=okF Tryz.func122
noncomputable def bN:MA:=cF [] Tryz.f123
theorem MS:cA Tryz.prog 123 bN:=okF Tryz.func123
def MI:MA:=⟨(oR [oZ 2 false] (oR [oM 3 0,oC 4 .geq 3 7,oM 2 4] .ret)),[(.tmp 2)],1,[]⟩
theorem uW:cA Tryz.prog 172 MI:=okF Tryz.func172
def lK:MA:=⟨(oR [oJ 4 0] (.seq (oR [oM 5 1] (oD 5 (oR [oJ 4 0] .ret) .skip)) (.seq (oR [oM 6 0] (oD 6 (oR [oJ 4 (-1)] .ret) .skip)) (oR [oJ 4 1] .ret)))),[(.tmp 4)],2,[]⟩
theorem wY:cA Tryz.prog 173 lK:=okF Tryz.func173
def NG:MA:=⟨(oR [oS 2 (.mv (.c (.int .u64 0)))] (.seq (oR [oM 3 0,oC 4 .geq 3 0] (oD 4 (oR [oM 5 0,oS 6 (.conv (.some .u64) (.t 5)),oS 7 (.bin .mul false (.c (.int .u64 2)) (.t 6)),oM 2 7] .ret) .skip)) (oR [oM 8 0,oC 9 .add 8 1,oS 10 (.un .neg (.t 9)),oS 11 (.conv (.some .u64) (.t 10)),oS 12 (.bin .mul false (.c (.int .u64 2)) (.t 11)),oS 13 (.bin .add false (.t 12) (.c (.int .u64 1))),oM 2 13] .ret))),[(.tmp 2)],1,[]⟩
theorem qW:cA Tryz.prog 174 NG:=okF Tryz.func174
def uA:MA:=⟨(oR [oQ 1 8 0,oZ 2 false] (oR [oF 4 0 1,oL 5 4,oM 3 5] (oR [oM 6 3,oC 7 .eql 6 1,oM 8 7,oFg 9 1 1 8 false,oP 10 9 8 false,oUg 11 10 8 false,oPo 12 8 11,oM 13 12,oMg 14 3 13 true,oCi 15 .eql 14 2 13 true,oMg 16 15 13 true,oFg 17 2 1 16 false,oP 18 17 16 false,oCi 19 .eql 18 0 16 false,oG 20 (.pick (.t 16) (.c (.bool true)) (.t 19)) 13 true,oPa 21 13 20,oM 22 21,oMg 23 3 22 true,oCi 24 .eql 23 3 22 true,oMg 25 24 22 true,oFg 26 3 1 25 false,oP 27 26 25 false,oG 28 (.bin .eql false (.t 27) (.c (.str (ByteArray.mk #[])))) 25 false,oG 29 (.pick (.t 25) (.c (.bool true)) (.t 28)) 22 true,oPa 30 22 29,oM 31 30,oMg 32 3 31 true,oCi 33 .eql 32 4 31 true,oMg 34 33 31 true,oMg 35 3 34 false,oCi 36 .eql 35 6 34 false,oG 37 (.pick (.t 34) (.c (.bool true)) (.t 36)) 31 true,oMg 38 37 31 true,oFg 39 4 1 38 false,oP 40 39 38 false,oCi 41 .eql 40 0 38 false,oG 42 (.pick (.t 38) (.c (.bool true)) (.t 41)) 31 true,oPa 43 31 42,oM 44 43,oMg 45 3 44 true,oCi 46 .eql 45 8 44 true,oMg 47 46 44 true,oFg 48 5 1 47 false,oP 49 48 47 false,oHg 50 49 47 false,oCi 51 .eql 50 0 47 false,oG 52 (.pick (.t 47) (.c (.bool true)) (.t 51)) 44 true,oPa 53 44 52,oM 54 53,oMg 55 3 54 true,oCi 56 .geq 55 5 54 true,oMg 57 56 54 true,oFg 58 6 1 57 false,oP 59 58 57 false,oHg 60 59 57 false,oCi 61 .eql 60 0 57 false,oG 62 (.pick (.t 57) (.c (.bool true)) (.t 61)) 54 true,oPa 63 54 62,oM 64 63,oMg 65 3 64 true,oCi 66 .eql 65 5 64 true,oMg 67 66 64 true,oMg 68 3 67 false,oCi 69 .eql 68 6 67 false,oG 70 (.pick (.t 67) (.c (.bool true)) (.t 69)) 64 true,oMg 71 70 64 true,oFg 72 7 1 71 false,oP 73 72 71 false,oHg 74 73 71 false,oCi 75 .eql 74 0 71 false,oG 76 (.pick (.t 71) (.c (.bool true)) (.t 75)) 64 true,oPa 77 64 76,oM 2 77] .ret))),[(.tmp 2)],1,[]⟩
theorem UZ:cA Tryz.prog 175 uA:=okF Tryz.func175
noncomputable def FW:MA:=cF [] Tryz.f176
theorem H7:cA Tryz.prog 176 FW:=okF Tryz.func176
def SO:C:=.seq (oR [oM 8 5,oM 9 1,oH 10 9,oB 11 .lss 8 10] (oD 11 .skip (.exit 0))) (.seq (.block 1 (oR [oA 15 10 2,oM 16 1,oM 17 5,oI 18 2 16 17,oF 19 0 18,oL 20 19,oC2 21 131 15 20,oM 14 21,oX 22 14 0,oX 23 14 1,oM 6 22,oM 7 23] (oR [oM 24 1,oM 25 5,oI 26 2 24 25,oF 27 0 26,oL 28 27,oM 29 7,oC2 30 176 28 29,oU 31 30,oM 32 31,oMg 33 5 32 false,oCi 34 .gtr 33 0 32 false,oMg 35 34 32 false,oMg 36 1 35 true,oMg 37 5 35 true,oIg 38 2 36 37 35 true,oFg 39 0 38 35 true,oP 40 39 35 true,oMg 41 1 35 true,oMg 42 5 35 true,oCi 43 .sub 42 1 35 true,oIg 44 2 41 43 35 true,oFg 45 0 44 35 true,oP 46 45 35 true,oBg 47 .leq 40 46 35 true,oPb 48 35 47 32 false,oPo 49 32 48] (oD 49 (oR [oZ 4 false] .ret) .skip)))) (.reg [oM 12 5,oC 13 .add 12 1,oM 5 13]))
def zL:MA:=⟨(oR [oQ 2 10 0,oZ 4 false] (.seq (oR [oJ 5 0] (.block 0 (.loop SO))) (oR [oZ 4 true] .ret))),[(.tmp 4)],2,[]⟩
theorem EZ:cA Tryz.prog 177 zL:=okF Tryz.func177
def wJ:C:=.seq (oR [oM 10 9,oM 11 2,oH 12 11,oB 13 .lss 10 12] (oD 13 .skip (.exit 0))) (.seq (.block 1 (oR [oA 16 1 4,oM 17 1,oM 18 2,oM 19 9,oI 20 8 18 19,oA 21 8 20,oM 22 3,oC4 23 130 16 17 21 22,oU 24 23] (oD 24 (oR [oZ 8 false] .ret) .skip))) (.reg [oM 14 9,oC 15 .add 14 1,oM 9 15]))
def ZM:MA:=⟨(oR [oQ 4 1 0,oZ 8 false] (.seq (oR [oJ 9 0] (.block 0 (.loop wJ))) (oR [oZ 8 true] .ret))),[(.tmp 8)],4,[]⟩
theorem H4:cA Tryz.prog 178 ZM:=okF Tryz.func178
def BL:C:=.seq (oR [oM 4 0,oS 5 (.bin .gtr false (.t 4) (.c (.int .u64 0)))] (oD 5 .skip (.exit 0))) (.block 1 (oR [oM 6 0,oS 7 (.bin .rem false (.t 6) (.c (.int .u64 256))),oS 8 (.conv (.some .u8) (.t 7)),oS 9 (.bsl [(.int .u8 0)] 1 [(0,(.t 8))]),oS 10 (.bstr .any (.t 9)),oM 11 3,oB 12 .add 10 11,oM 3 12] (.reg [oM 13 0,oS 14 (.bin .quo false (.t 13) (.c (.int .u64 256))),oM 0 14])))
def GM:MA:=⟨(oR [oS 2 (.mv (.c (.str (ByteArray.mk #[]))))] (oR [oS 3 (.mv (.c (.str (ByteArray.mk #[]))))] (.seq (.block 0 (.loop BL)) (oR [oM 15 3,oM 2 15] .ret)))),[(.tmp 2)],1,[]⟩
theorem P4:cA Tryz.prog 179 GM:=okF Tryz.func179
def XI:C:=.seq (oR [oM 4 0,oS 5 (.bin .geq false (.t 4) (.c (.int .u64 128)))] (oD 5 .skip (.exit 0))) (.block 1 (oR [oM 6 3,oM 7 0,oS 8 (.bin .rem false (.t 7) (.c (.int .u64 128))),oS 9 (.bin .add false (.t 8) (.c (.int .u64 128))),oS 10 (.conv (.some .u8) (.t 9)),oS 11 (.bsl [(.int .u8 0)] 1 [(0,(.t 10))]),oAp 12 5 1 1 6 11,oM 3 12] (.reg [oM 13 0,oS 14 (.bin .quo false (.t 13) (.c (.int .u64 128))),oM 0 14])))
def HM:MA:=⟨(oR [oS 2 (.mv (.c (.str (ByteArray.mk #[]))))] (oR [oS 3 (.mv (.c (.sl true [])))] (.seq (.block 0 (.loop XI)) (oR [oM 15 3,oM 16 0,oS 17 (.conv (.some .u8) (.t 16)),oS 18 (.bsl [(.int .u8 0)] 1 [(0,(.t 17))]),oAp 19 5 1 1 15 18,oS 20 (.bstr .any (.t 19)),oM 2 20] .ret)))),[(.tmp 2)],1,[]⟩
theorem A4:cA Tryz.prog 180 HM:=okF Tryz.func180
def cL:MA:=⟨(oR [oS 2 (.mv (.c (.str (ByteArray.mk #[]))))] (oR [oM 3 0,oS 4 (.len true (.t 3)),oS 5 (.conv (.some .u64) (.t 4)),oC1 6 180 5,oM 7 0,oB 8 .add 6 7,oM 2 8] .ret)),[(.tmp 2)],1,[]⟩
theorem IZ:cA Tryz.prog 181 cL:=okF Tryz.func181
def DH:MA:=⟨(oR [oS 6 (.mv (.c (.str (ByteArray.mk #[]))))] (oR [oM 8 0,oS 9 (.bin .mul false (.c (.int .i64 2)) (.t 8)),oS 10 (.conv (.some .u64) (.t 9)),oM 7 10] (.seq (oR [oM 11 1] (oD 11 (.reg [oM 12 7,oS 13 (.bin .add false (.t 12) (.c (.int .u64 1))),oM 7 13]) .skip)) (oR [oM 14 7,oC1 15 180 14,oM 16 2,oC1 17 181 16,oB 18 .add 15 17,oM 6 18] .ret)))),[(.tmp 6)],3,[]⟩
theorem eY:cA Tryz.prog 182 DH:=okF Tryz.func182
def cC:C:=oR [oB 9 .lss 8 7] (.seq (oD 9 .skip (.exit 0)) (.seq (.block 1 (oR [oM 10 8,oM 5 10] (oR [oM 11 1,oM 12 0,oM 13 5,oI 14 2 12 13,oA 15 2 14,oS 16 (.callv .any (.t 11) [(.t 15)])] (oD 16 (oR [oM 17 5,oM 4 17] .ret) .skip)))) (.reg [oC 18 .add 8 1,oM 8 18])))
def ZC:MA:=⟨(oR [oJ 4 0] (.seq (oR [oM 6 0,oH 7 6,oJ 8 0] (.block 0 (.loop cC))) (oR [oJ 4 (-1)] .ret))),[(.tmp 4)],2,[]⟩
theorem rK:cA Tryz.prog 183 ZC:=okF Tryz.func183
def wG:MA:=⟨(oR [oQ 2 2 0,oZ 3 false] (oR [oF 4 0 2,oL 5 4,oL 6 1,oB 7 .eql 5 6,oM 3 7] .ret)),[(.tmp 3)],2,[]⟩
theorem PQ:cA Tryz.prog 184 wG:=okF Tryz.func184
def wI:MA:=⟨(oR [oQ 5 1 0,oQ 7 8 2,oQ 8 1 3,oJ 10 0] (.seq (oR [oA 13 1 5,oM 14 1,oC2 15 214 13 14,oM 11 15] (oR [oM 16 11,oC 17 .neq 16 0] (oD 17 (oR [oM 18 11,oM 10 18] .ret) .skip))) (.seq (oR [oA 19 1 8,oM 20 4,oC2 21 214 19 20,oM 12 21] (oR [oM 22 12,oC 23 .neq 22 0] (oD 23 (oR [oM 24 12,oM 10 24] .ret) .skip))) (.seq (oR [oA 25 1 5,oM 26 1,oA 27 8 7,oS 28 (.call .any 121 [(.t 25),(.t 26),(.t 27)]),oU 29 28] (oD 29 (oR [oJ 10 1] .ret) .skip)) (oR [oJ 10 0] .ret))))),[(.tmp 10)],5,[]⟩
theorem mU:cA Tryz.prog 185 wI:=okF Tryz.func185
def HA:MA:=⟨(oR [oQ 6 8 2,oY 8 zza,oZ 9 false] (oR [oM 16 0,oK 17 16,oF 18 0 17,oF 19 0 18,oLr 20 0 1 19,oM 21 1,oI 22 10 20 21,oS 23 (.load .imm true 10 (.t 22)),oM 24 0,oK 25 24,oF 26 1 25,oF 27 0 26,oLr 28 0 1 27,oM 29 3,oI 30 10 28 29,oS 31 (.load .imm true 10 (.t 30)),oY 10 zze,oY 11 zze,oN (.store (.root 10) true 10 (.t 10) (.t 23)),oN (.store (.root 11) true 10 (.t 11) (.t 31))] (.seq (oR [oF 32 0 10,oL 33 32,oF 34 0 11,oL 35 34,oB 36 .neq 33 35] (oD 36 (oR [oM 37 0,oS 38 (.callr .any 215 [(.t 37)]),oX 39 38 0,oX 40 38 1,oV 8 8 39,oM 9 40] .ret) .skip)) (oR [oF 41 0 6,oL 42 41,oF 43 1 6,oL 44 43,oF 45 2 6,oL 46 45,oF 47 3 6,oL 48 47,oF 49 4 6,oL 50 49,oS 51 (.build zza [(0,(1,(.t 42))),(1,(1,(.t 44))),(2,(1,(.t 46))),(3,(1,(.t 48))),(4,(1,(.t 50)))]),oY 12 zza,oV 8 12 51] (oR [oZ 13 true] (.seq (oR [oF 52 0 10,oL 53 52] (.block 0 (oR [oC 55 .eql 53 2,oM 54 55] (oD 54 (.reg [oF 56 2 6,oL 57 56,oF 58 2 11,oL 59 58,oB 60 .geq 57 59,oM 61 60,oFg 62 2 6 61 true,oP 63 62 61 true,oFg 64 3 11 61 true,oP 65 64 61 true,oBg 66 .leq 63 65 61 true,oPa 67 61 66,oM 13 67]) (oR [oC 69 .eql 53 3,oM 68 69] (oD 68 (.reg [oF 70 3 6,oL 71 70,oS 72 (.len true (.t 71)),oF 73 4 11,oL 74 73,oB 75 .leq 72 74,oM 13 75]) (oR [oC 77 .eql 53 4,oM 76 77] (oD 76 (oR [oA 79 10 11,oF 80 4 6,oL 81 80,oC2 82 134 79 81,oM 78 82,oX 83 78 0,oX 84 78 1,oM 14 83,oM 15 84] (.reg [oM 85 15,oM 86 85,oFg 87 9 11 86 false,oP 88 87 86 false,oPo 89 86 88,oM 13 89])) (.seq (oR [oC 91 .eql 53 7,oM 90 91] (oD 90 .skip (.reg [oC 92 .eql 53 8,oM 90 92]))) (oD 90 (.reg [oF 93 6 6,oL 94 93,oH 95 94,oF 96 4 11,oL 97 96,oB 98 .leq 95 97,oM 13 98]) .skip)))))))))) (.seq (oR [oM 99 13,oU 100 99] (oD 100 (oR [oM 101 0,oS 102 (.callr .any 215 [(.t 101)]),oX 103 102 0,oX 104 102 1,oV 8 8 103,oM 9 104] .ret) .skip)) (.seq (oR [oF 105 0 10,oL 106 105] (.block 1 (oR [oC 108 .eql 106 5,oM 107 108] (oD 107 (oR [oM 109 0,oA 110 10 10,oA 111 8 6,oA 112 10 11,oS 113 (.callr .any 216 [(.t 109),(.t 110),(.t 111),(.t 112)]),oX 114 113 0,oX 115 113 1,oV 8 8 114,oM 9 115] .ret) (oR [oC 117 .eql 106 6,oM 116 117] (oD 116 (oR [oM 118 0,oA 119 10 10,oA 120 8 6,oA 121 10 11,oS 122 (.callr .any 217 [(.t 118),(.t 119),(.t 120),(.t 121)]),oX 123 122 0,oX 124 122 1,oV 8 8 123,oM 9 124] .ret) (oR [oC 126 .eql 106 8,oM 125 126] (oD 125 (oR [oM 128 0,oF 129 7 10,oL 130 129,oF 131 5 6,oL 132 131,oF 133 7 11,oL 134 133,oS 135 (.callr .any 218 [(.t 128),(.t 130),(.t 132),(.t 134)]),oM 127 135,oX 136 127 0,oX 137 127 1,oF 138 5 12,oW 138 136,oM 13 137] (oR [oM 139 13,oU 140 139] (oD 140 (oR [oS 141 (.build zza []),oV 8 8 141,oZ 9 false] .ret) .skip))) .skip)))))))) (.seq (oR [oM 143 0,oF 144 8 10,oL 145 144,oF 146 6 6,oL 147 146,oF 148 8 11,oL 149 148,oS 150 (.callr .any 218 [(.t 143),(.t 145),(.t 147),(.t 149)]),oM 142 150,oX 151 142 0,oX 152 142 1,oF 153 6 12,oW 153 151,oM 13 152] (oR [oM 154 13,oU 155 154] (oD 155 (oR [oS 156 (.build zza []),oV 8 8 156,oZ 9 false] .ret) .skip))) (oR [oA 157 8 12,oV 8 8 157,oZ 9 true] .ret)))))))))),[(.cell 8 true 8),(.tmp 9)],4,[3000000,77,205,227,245,271,301]⟩
theorem GP:cA Tryz.prog 186 HA:=okF Tryz.func186
def iC:C:=oR [oB 14 .lss 13 12] (.seq (oD 14 .skip (.exit 0)) (.seq (.block 1 (oR [oM 15 13,oM 5 15] (oR [oM 16 0,oM 17 5,oI 18 2 16 17,oA 19 2 18,oM 20 1,oM 21 5,oI 22 2 20 21,oA 23 2 22,oS 24 (.eqa true [0,1] (.t 19) (.t 23))] (oD 24 (oR [oZ 4 false] .ret) .skip)))) (.reg [oC 25 .add 13 1,oM 13 25])))
def bD:MA:=⟨(oR [oZ 4 false] (.seq (oR [oM 6 0,oH 7 6,oM 8 1,oH 9 8,oB 10 .neq 7 9] (oD 10 (oR [oZ 4 false] .ret) .skip)) (.seq (oR [oM 11 0,oH 12 11,oJ 13 0] (.block 0 (.loop iC))) (oR [oZ 4 true] .ret)))),[(.tmp 4)],2,[]⟩
theorem PN:cA Tryz.prog 187 bD:=okF Tryz.func187
def ZB:C:=oR [oB 18 .lss 17 16] (.seq (oD 18 .skip (.exit 0)) (.seq (.block 1 (oR [oM 19 17,oI 20 8 15 17,oA 21 8 20,oY 8 zza,oM 7 19,oV 8 8 21] (oR [oM 22 1,oM 23 7,oI 24 8 22 23,oA 25 8 24,oY 9 zza,oV 8 9 25] (oR [oM 26 2,oA 27 8 8,oA 28 8 9,oS 29 (.callv .any (.t 26) [(.t 27),(.t 28)]),oU 30 29] (oD 30 (oR [oZ 6 false] .ret) .skip))))) (.reg [oC 31 .add 17 1,oM 17 31])))
def gC:MA:=⟨(oR [oZ 6 false] (.seq (oR [oM 10 0,oH 11 10,oM 12 1,oH 13 12,oB 14 .neq 11 13] (oD 14 (oR [oZ 6 false] .ret) .skip)) (.seq (oR [oM 15 0,oH 16 15,oJ 17 0] (.block 0 (.loop ZB))) (oR [oZ 6 true] .ret)))),[(.tmp 6)],3,[]⟩
theorem JK:cA Tryz.prog 188 gC:=okF Tryz.func188
def bE:C:=.seq (oR [oM 97 6,oF 98 6 2,oL 99 98,oH 100 99,oB 101 .lss 97 100] (oD 101 .skip (.exit 2))) (.seq (.block 3 (oR [oF 104 6 2,oL 105 104,oM 106 6,oI 107 13 105 106,oA 108 13 107,oF 109 6 3,oL 110 109,oM 111 6,oI 112 13 110 111,oA 113 13 112,oC2 114 195 108 113,oU 115 114] (oD 115 (oR [oZ 4 false] .ret) .skip))) (.reg [oM 102 6,oC 103 .add 102 1,oM 6 103]))
def ED:C:=.seq (oR [oM 79 5,oF 80 5 2,oL 81 80,oH 82 81,oB 83 .lss 79 82] (oD 83 .skip (.exit 0))) (.seq (.block 1 (oR [oF 86 5 2,oL 87 86,oM 88 5,oI 89 2 87 88,oA 90 2 89,oF 91 5 3,oL 92 91,oM 93 5,oI 94 2 92 93,oA 95 2 94,oS 96 (.eqa true [0,1] (.t 90) (.t 95))] (oD 96 (oR [oZ 4 false] .ret) .skip))) (.reg [oM 84 5,oC 85 .add 84 1,oM 5 85]))
def xB:MA:=⟨(oR [oQ 2 10 0,oQ 3 10 1,oZ 4 false] (.seq (oR [oF 7 0 2,oL 8 7,oF 9 0 3,oL 10 9,oB 11 .neq 8 10,oM 12 11,oFg 13 1 2 12 false,oP 14 13 12 false,oFg 15 1 3 12 false,oP 16 15 12 false,oBg 17 .neq 14 16 12 false,oPo 18 12 17,oM 19 18,oFg 20 2 2 19 false,oP 21 20 19 false,oFg 22 2 3 19 false,oP 23 22 19 false,oBg 24 .neq 21 23 19 false,oPo 25 19 24,oM 26 25,oFg 27 3 2 26 false,oP 28 27 26 false,oFg 29 3 3 26 false,oP 30 29 26 false,oBg 31 .neq 28 30 26 false,oPo 32 26 31,oM 33 32,oFg 34 4 2 33 false,oP 35 34 33 false,oFg 36 4 3 33 false,oP 37 36 33 false,oBg 38 .neq 35 37 33 false,oPo 39 33 38,oM 40 39,oFg 41 7 2 40 false,oP 42 41 40 false,oFg 43 7 3 40 false,oP 44 43 40 false,oBg 45 .neq 42 44 40 false,oPo 46 40 45,oM 47 46,oFg 48 8 2 47 false,oP 49 48 47 false,oFg 50 8 3 47 false,oP 51 50 47 false,oBg 52 .neq 49 51 47 false,oPo 53 47 52,oM 54 53,oFg 55 9 2 54 false,oP 56 55 54 false,oFg 57 9 3 54 false,oP 58 57 54 false,oG 59 (.bin .neq true (.t 56) (.t 58)) 54 false,oPo 60 54 59,oM 61 60,oFg 62 5 2 61 false,oP 63 62 61 false,oHg 64 63 61 false,oFg 65 5 3 61 false,oP 66 65 61 false,oHg 67 66 61 false,oBg 68 .neq 64 67 61 false,oPo 69 61 68,oM 70 69,oFg 71 6 2 70 false,oP 72 71 70 false,oHg 73 72 70 false,oFg 74 6 3 70 false,oP 75 74 70 false,oHg 76 75 70 false,oBg 77 .neq 73 76 70 false,oPo 78 70 77] (oD 78 (oR [oZ 4 false] .ret) .skip)) (.seq (oR [oJ 5 0] (.block 0 (.loop ED))) (.seq (oR [oJ 6 0] (.block 2 (.loop bE))) (oR [oZ 4 true] .ret))))),[(.tmp 4)],2,[]⟩
theorem uT:cA Tryz.prog 156 xB:=okF Tryz.func156
def SH:MA:=⟨(oR [oQ 1 10 0,oY 2 zze] (.seq (oR [oF 3 0 1,oL 4 3] (.block 0 (oR [oC 6 .eql 4 1,oM 5 6] (oD 5 (oR [oF 7 0 1,oL 8 7,oS 9 (.build zze [(0,(1,(.t 8)))]),oV 10 2 9] .ret) (oR [oC 11 .eql 4 2,oM 10 11] (oD 10 (oR [oF 12 0 1,oL 13 12,oF 14 2 1,oL 15 14,oF 16 3 1,oL 17 16,oS 18 (.build zze [(0,(1,(.t 13))),(2,(1,(.t 15))),(3,(1,(.t 17)))]),oV 10 2 18] .ret) (oR [oC 20 .eql 4 3,oM 19 20] (oD 19 (oR [oF 21 0 1,oL 22 21,oF 23 4 1,oL 24 23,oS 25 (.build zze [(0,(1,(.t 22))),(4,(1,(.t 24)))]),oV 10 2 25] .ret) (oR [oC 27 .eql 4 4,oM 26 27] (oD 26 (oR [oF 28 0 1,oL 29 28,oF 30 1 1,oL 31 30,oF 32 5 1,oL 33 32,oF 34 9 1,oL 35 34,oS 36 (.build zze [(0,(1,(.t 29))),(1,(1,(.t 31))),(5,(1,(.t 33))),(9,(1,(.t 35)))]),oV 10 2 36] .ret) (oR [oC 38 .eql 4 5,oM 37 38] (oD 37 (oR [oF 39 0 1,oL 40 39,oF 41 1 1,oL 42 41,oF 43 6 1,oL 44 43,oS 45 (.build zze [(0,(1,(.t 40))),(1,(1,(.t 42))),(6,(1,(.t 44)))]),oV 10 2 45] .ret) (oR [oC 47 .eql 4 6,oM 46 47] (oD 46 (oR [oF 48 0 1,oL 49 48,oF 50 1 1,oL 51 50,oF 52 6 1,oL 53 52,oF 54 9 1,oL 55 54,oS 56 (.build zze [(0,(1,(.t 49))),(1,(1,(.t 51))),(6,(1,(.t 53))),(9,(1,(.t 55)))]),oV 10 2 56] .ret) (oR [oC 58 .eql 4 7,oM 57 58] (oD 57 (oR [oF 59 0 1,oL 60 59,oF 61 4 1,oL 62 61,oF 63 8 1,oL 64 63,oS 65 (.build zze [(0,(1,(.t 60))),(4,(1,(.t 62))),(8,(1,(.t 64)))]),oV 10 2 65] .ret) (oR [oC 67 .eql 4 8,oM 66 67] (oD 66 (oR [oF 68 0 1,oL 69 68,oF 70 4 1,oL 71 70,oF 72 7 1,oL 73 72,oF 74 8 1,oL 75 74,oS 76 (.build zze [(0,(1,(.t 69))),(4,(1,(.t 71))),(7,(1,(.t 73))),(8,(1,(.t 75)))]),oV 10 2 76] .ret) .skip)))))))))))))))))) (oR [oF 77 0 1,oL 78 77,oF 79 8 1,oL 80 79,oS 81 (.build zze [(0,(1,(.t 78))),(8,(1,(.t 80)))]),oV 10 2 81] .ret))),[(.cell 2 true 10)],1,[]⟩
theorem BX:cA Tryz.prog 157 SH:=okF Tryz.func157
def pE:C:=.seq (oR [oM 17 3,oM 18 0,oS 19 (.len true (.t 18)),oB 20 .lss 17 19] (oD 20 .skip (.exit 0))) (.seq (.block 1 (oR [oM 23 0,oM 24 3,oS 25 (.index (.t 23) (.t 24)),oC1 26 196 25,oU 27 26,oM 28 27,oMg 29 0 28 true,oMg 30 3 28 true,oG 31 (.index (.t 29) (.t 30)) 28 true,oG 32 (.call .any 197 [(.t 31)]) 28 true,oUg 33 32 28 true,oPa 34 28 33] (oD 34 (oR [oZ 2 false] .ret) .skip))) (.reg [oM 21 3,oC 22 .add 21 1,oM 3 22]))
def OE:MA:=⟨(oR [oZ 2 false] (.seq (oR [oM 4 0,oS 5 (.bin .eql false (.t 4) (.c (.str (ByteArray.mk #[])))),oM 6 5,oMg 7 0 6 false,oG 8 (.len true (.t 7)) 6 false,oCi 9 .gtr 8 24 6 false,oPo 10 6 9,oM 11 10,oMg 12 0 11 false,oG 13 (.index (.t 12) (.c (.int .i64 0))) 11 false,oG 14 (.call .any 196 [(.t 13)]) 11 false,oUg 15 14 11 false,oPo 16 11 15] (oD 16 (oR [oZ 2 false] .ret) .skip)) (.seq (oR [oJ 3 0] (.block 0 (.loop pE))) (oR [oZ 2 true] .ret)))),[(.tmp 2)],1,[]⟩
theorem wW:cA Tryz.prog 158 OE:=okF Tryz.func158
def MF:C:=.seq (oR [oM 29 5,oM 30 4,oB 31 .lss 29 30] (oD 31 .skip (.exit 2))) (.seq (.block 3 (oR [oM 34 0,oM 35 5,oI 36 2 34 35,oF 37 1 36,oL 38 37,oM 39 0,oM 40 4,oI 41 2 39 40,oF 42 1 41,oL 43 42,oB 44 .eql 38 43] (oD 44 (oR [oZ 2 false] .ret) .skip))) (.reg [oM 32 5,oC 33 .add 32 1,oM 5 33]))
def SE:C:=.seq (oR [oM 6 4,oM 7 0,oH 8 7,oB 9 .lss 6 8] (oD 9 .skip (.exit 0))) (.seq (.block 1 (.seq (oR [oM 12 3,oM 13 0,oM 14 4,oI 15 2 13 14,oF 16 0 15,oL 17 16,oC2 18 198 12 17,oU 19 18,oM 20 19,oMg 21 0 20 false,oMg 22 4 20 false,oIg 23 2 21 22 20 false,oFg 24 1 23 20 false,oP 25 24 20 false,oG 26 (.call .any 158 [(.t 25)]) 20 false,oUg 27 26 20 false,oPo 28 20 27] (oD 28 (oR [oZ 2 false] .ret) .skip)) (.seq (oR [oJ 5 0] (.block 2 (.loop MF))) (.reg [oM 45 0,oM 46 4,oI 47 2 45 46,oF 48 0 47,oL 49 48,oM 3 49])))) (.reg [oM 10 4,oC 11 .add 10 1,oM 4 11]))
def tI:MA:=⟨(oR [oZ 2 false] (oR [oJ 3 0] (.seq (oR [oJ 4 0] (.block 0 (.loop SE))) (oR [oM 50 0,oH 51 50,oC 52 .geq 51 1,oM 53 52,oMg 54 0 53 true,oHg 55 54 53 true,oCi 56 .leq 55 16 53 true,oPa 57 53 56,oM 2 57] .ret)))),[(.tmp 2)],1,[]⟩
theorem UU:cA Tryz.prog 159 tI:=okF Tryz.func159
def AE:C:=.seq (oR [oM 60 8,oM 61 6,oB 62 .lss 60 61] (oD 62 .skip (.exit 2))) (.seq (.block 3 (oR [oM 65 0,oM 66 8,oI 67 13 65 66,oF 68 1 67,oL 69 68,oF 70 1 7,oL 71 70,oB 72 .eql 69 71] (oD 72 (oR [oZ 4 false] .ret) .skip))) (.reg [oM 63 8,oC 64 .add 63 1,oM 8 64]))
def LD:C:=.seq (oR [oM 9 6,oM 10 0,oH 11 10,oB 12 .lss 9 11] (oD 12 .skip (.exit 0))) (.seq (.block 1 (oR [oM 15 0,oM 16 6,oI 17 13 15 16,oA 18 13 17,oY 7 zzh,oV 13 7 18] (.seq (oR [oM 19 5,oF 20 0 7,oL 21 20,oC2 22 198 19 21,oU 23 22,oM 24 23,oFg 25 1 7 24 false,oP 26 25 24 false,oG 27 (.call .any 158 [(.t 26)]) 24 false,oUg 28 27 24 false,oPo 29 24 28,oM 30 29,oFg 31 3 7 30 false,oP 32 31 30 false,oMg 33 32 30 false,oFg 34 4 7 33 true,oP 35 34 33 true,oPb 36 33 35 30 false,oPo 37 30 36,oM 38 37,oMg 39 1 38 false,oUg 40 39 38 false,oMg 41 40 38 false,oFg 42 3 7 41 true,oP 43 42 41 true,oMg 44 43 41 true,oFg 45 4 7 44 false,oP 46 45 44 false,oG 47 (.pick (.t 44) (.c (.bool true)) (.t 46)) 41 true,oPb 48 41 47 38 false,oPo 49 38 48] (oD 49 (oR [oZ 4 false] .ret) .skip)) (.seq (oR [oF 50 4 7,oL 51 50,oU 52 51,oM 53 52,oFg 54 5 7 53 true,oLg 55 8 54 53 true,oG 56 (.build zza []) 53 true,oCg 57 51 55 56 53 true,oUg 58 57 53 true,oPa 59 53 58] (oD 59 (oR [oZ 4 false] .ret) .skip)) (.seq (oR [oJ 8 0] (.block 2 (.loop AE))) (.reg [oF 73 0 7,oL 74 73,oM 5 74])))))) (.reg [oM 13 6,oC 14 .add 13 1,oM 6 14]))
def rI:MA:=⟨(oR [oZ 4 false] (oR [oJ 5 0] (.seq (oR [oJ 6 0] (.block 0 (.loop LD))) (oR [oM 75 0,oH 76 75,oC 77 .leq 76 16,oM 78 77,oMg 79 1 78 true,oMg 80 79 78 true,oMg 81 0 80 false,oHg 82 81 80 false,oCi 83 .geq 82 1 80 false,oG 84 (.pick (.t 80) (.c (.bool true)) (.t 83)) 78 true,oPa 85 78 84,oM 4 85] .ret)))),[(.tmp 4)],2,[]⟩
theorem TU:cA Tryz.prog 160 rI:=okF Tryz.func160
def oE:C:=oR [oB 20 .lss 19 18] (.seq (oD 20 .skip (.exit 0)) (.seq (.block 1 (oR [oM 21 19,oM 3 21] (oR [oM 22 0,oM 23 3,oS 24 (.index (.t 22) (.t 23)),oC1 25 199 24,oU 26 25,oM 27 26,oMg 28 0 27 true,oMg 29 3 27 true,oG 30 (.index (.t 28) (.t 29)) 27 true,oG 31 (.call .any 200 [(.t 30)]) 27 true,oUg 32 31 27 true,oPa 33 27 32] (oD 33 (oR [oZ 2 false] .ret) .skip)))) (.reg [oC 34 .add 19 1,oM 19 34])))
def IE:MA:=⟨(oR [oZ 2 false] (.seq (oR [oM 4 0,oS 5 (.bin .eql false (.t 4) (.c (.str (ByteArray.mk #[])))),oM 6 5,oMg 7 0 6 false,oG 8 (.len true (.t 7)) 6 false,oCi 9 .gtr 8 24 6 false,oPo 10 6 9,oM 11 10,oMg 12 0 11 false,oG 13 (.index (.t 12) (.c (.int .i64 0))) 11 false,oG 14 (.call .any 199 [(.t 13)]) 11 false,oUg 15 14 11 false,oPo 16 11 15] (oD 16 (oR [oZ 2 false] .ret) .skip)) (.seq (oR [oM 17 0,oS 18 (.len true (.t 17)),oJ 19 0] (.block 0 (.loop oE))) (oR [oZ 2 true] .ret)))),[(.tmp 2)],1,[]⟩
theorem MV:cA Tryz.prog 161 IE:=okF Tryz.func161
def EF:C:=oR [oB 10 .lss 9 8] (.seq (oD 10 .skip (.exit 0)) (.seq (.block 1 (oR [oI 11 2 7 9,oA 12 2 11,oY 6 zzc,oV 2 6 12] (.reg [oM 13 3,oF 14 0 6,oL 15 14,oS 16 (.bsl [(.int .i64 0)] 1 [(0,(.t 15))]),oAp 17 3 1 8 13 16,oM 18 4,oF 19 1 6,oL 20 19,oS 21 (.bsl [(.str (ByteArray.mk #[]))] 1 [(0,(.t 20))]),oAp 22 9 1 16 18 21,oM 3 17,oM 4 22]))) (.reg [oC 23 .add 9 1,oM 9 23])))
def kH:MA:=⟨(oR [oZ 2 false] (oR [oS 3 (.mv (.c (.sl true [])))] (oR [oS 4 (.mv (.c (.sl true [])))] (.seq (oR [oM 7 0,oH 8 7,oJ 9 0] (.block 0 (.loop EF))) (oR [oM 24 0,oH 25 24,oC 26 .gtr 25 0,oM 27 26,oMg 28 3 27 true,oMg 29 4 27 true,oCg 30 201 28 29 27 true,oPa 31 27 30,oM 2 31] .ret))))),[(.tmp 2)],1,[]⟩
theorem pT:cA Tryz.prog 162 kH:=okF Tryz.func162
def WF:C:=oR [oB 11 .lss 10 9] (.seq (oD 11 .skip (.exit 0)) (.seq (.block 1 (oR [oI 12 13 8 10,oA 13 13 12,oY 6 zzh,oV 13 6 13] (oR [oM 14 3,oF 15 0 6,oL 16 15,oS 17 (.bsl [(.int .i64 0)] 1 [(0,(.t 16))]),oAp 18 3 1 8 14 17,oM 19 4,oF 20 1 6,oL 21 20,oS 22 (.bsl [(.str (ByteArray.mk #[]))] 1 [(0,(.t 21))]),oAp 23 9 1 16 19 22,oM 3 18,oM 4 23] (oR [oF 24 0 1,oL 25 24,oC 26 .eql 25 6,oM 27 26,oFg 28 3 6 27 true,oP 29 28 27 true,oMg 30 29 27 true,oFg 31 4 6 30 false,oP 32 31 30 false,oG 33 (.pick (.t 30) (.c (.bool true)) (.t 32)) 27 true,oPa 34 27 33,oM 35 34,oFg 36 3 6 35 false,oP 37 36 35 false,oMg 38 37 35 false,oFg 39 4 6 38 true,oP 40 39 38 true,oPb 41 38 40 35 false,oPo 42 35 41,oM 43 42,oFg 44 4 6 43 false,oP 45 44 43 false,oUg 46 45 43 false,oMg 47 46 43 false,oFg 48 5 6 47 true,oLg 49 8 48 47 true,oG 50 (.call .any 202 [(.t 49)]) 47 true,oUg 51 50 47 true,oPb 52 47 51 43 false,oPo 53 43 52] (oD 53 (oR [oZ 2 false] .ret) .skip))))) (.reg [oC 54 .add 10 1,oM 10 54])))
def jH:MA:=⟨(oR [oQ 1 10 0,oZ 2 false] (oR [oS 3 (.mv (.c (.sl true [])))] (oR [oS 4 (.mv (.c (.sl true [])))] (.seq (oR [oF 7 6 1,oL 8 7,oH 9 8,oJ 10 0] (.block 0 (.loop WF))) (oR [oF 55 0 1,oL 56 55,oC 57 .eql 56 5,oM 58 57,oMg 59 3 58 false,oHg 60 59 58 false,oCi 61 .gtr 60 0 58 false,oPo 62 58 61,oM 63 62,oMg 64 3 63 true,oMg 65 4 63 true,oCg 66 201 64 65 63 true,oPa 67 63 66,oM 2 67] .ret))))),[(.tmp 2)],1,[]⟩
theorem oT:cA Tryz.prog 163 jH:=okF Tryz.func163
def NB:MA:=⟨(oR [oQ 2 10 0,oQ 3 10 1,oZ 4 false] (oR [oF 5 0 2,oL 6 5,oF 7 0 3,oL 8 7,oB 9 .eql 6 8,oM 10 9,oFg 11 1 2 10 true,oP 12 11 10 true,oFg 13 1 3 10 true,oP 14 13 10 true,oBg 15 .eql 12 14 10 true,oPa 16 10 15,oM 17 16,oFg 18 2 2 17 true,oP 19 18 17 true,oFg 20 2 3 17 true,oP 21 20 17 true,oBg 22 .eql 19 21 17 true,oPa 23 17 22,oM 24 23,oFg 25 3 2 24 true,oP 26 25 24 true,oFg 27 3 3 24 true,oP 28 27 24 true,oBg 29 .eql 26 28 24 true,oPa 30 24 29,oM 31 30,oFg 32 4 2 31 true,oP 33 32 31 true,oFg 34 4 3 31 true,oP 35 34 31 true,oBg 36 .eql 33 35 31 true,oPa 37 31 36,oM 38 37,oFg 39 7 2 38 true,oP 40 39 38 true,oFg 41 7 3 38 true,oP 42 41 38 true,oBg 43 .eql 40 42 38 true,oPa 44 38 43,oM 45 44,oFg 46 8 2 45 true,oP 47 46 45 true,oFg 48 8 3 45 true,oP 49 48 45 true,oBg 50 .eql 47 49 45 true,oPa 51 45 50,oM 52 51,oFg 53 9 2 52 true,oP 54 53 52 true,oFg 55 9 3 52 true,oP 56 55 52 true,oG 57 (.bin .eql true (.t 54) (.t 56)) 52 true,oPa 58 52 57,oM 59 58,oFg 60 5 2 59 true,oP 61 60 59 true,oFg 62 5 3 59 true,oP 63 62 59 true,oCg 64 203 61 63 59 true,oPa 65 59 64,oM 66 65,oFg 67 6 2 66 true,oP 68 67 66 true,oFg 69 6 3 66 true,oP 70 69 66 true,oG 71 (.call .any 204 [(.t 68),(.t 70),(.c (.fn 205 []))]) 66 true,oPa 72 66 71,oM 4 72] .ret)),[(.tmp 4)],2,[]⟩
theorem dW:cA Tryz.prog 164 NB:=okF Tryz.func164
def sI:C:=.seq (oR [oM 281 20,oF 282 5 6,oL 283 282,oH 284 283,oB 285 .lss 281 284] (oD 285 .skip (.exit 5))) (.seq (.block 6 (oR [oF 288 5 6,oL 289 288,oM 290 20,oC 291 .sub 290 1,oI 292 8 289 291,oA 293 8 292,oF 294 5 6,oL 295 294,oM 296 20,oI 297 8 295 296,oA 298 8 297,oC2 299 210 293 298,oC 300 .geq 299 0] (oD 300 (oR [oZ 8 false] .ret) .skip))) (.reg [oM 286 20,oC 287 .add 286 1,oM 20 287]))
def dI:C:=oR [oB 153 .lss 152 151] (.seq (oD 153 .skip (.exit 3)) (.seq (.block 4 (oR [oM 154 152,oI 155 13 150 152,oA 156 13 155,oY 17 zzh,oM 16 154,oV 13 17 156] (oR [oA 157 1 4,oF 158 2 17,oL 159 158,oF 160 6 6,oL 161 160,oM 162 16,oI 163 8 161 162,oA 164 8 163,oM 165 3,oC4 166 165 157 159 164 165,oU 167 166] (oD 167 (oR [oZ 8 false] .ret) .skip)))) (.reg [oC 168 .add 152 1,oM 152 168])))
def FO:C:=oR [oB 114 .lss 113 112] (.seq (oD 114 .skip (.exit 1)) (.seq (.block 2 (oR [oM 115 113,oI 116 2 111 113,oA 117 2 116,oY 13 zzc,oM 12 115,oV 2 13 117] (oR [oA 119 10 9,oF 120 0 13,oL 121 120,oC2 122 109 119 121,oM 118 122,oX 123 118 0,oX 124 118 1,oM 14 123,oM 15 124] (oR [oM 125 15,oM 126 125,oFg 127 0 13 126 false,oP 128 127 126 false,oG 129 (.call .any 208 [(.t 128)]) 126 false,oUg 130 129 126 false,oPo 131 126 130,oM 132 131,oMg 133 12 132 false,oCi 134 .gtr 133 0 132 false,oMg 135 134 132 false,oFg 136 0 13 135 true,oP 137 136 135 true,oFg 138 7 6 135 true,oP 139 138 135 true,oMg 140 12 135 true,oCi 141 .sub 140 1 135 true,oIg 142 2 139 141 135 true,oFg 143 0 142 135 true,oP 144 143 135 true,oBg 145 .leq 137 144 135 true,oPb 146 135 145 132 false,oPo 147 132 146] (oD 147 (oR [oZ 8 false] .ret) .skip))))) (.reg [oC 148 .add 113 1,oM 113 148])))
def zA:MA:=⟨(oR [oQ 4 1 0,oQ 6 8 2,oZ 8 false] (.seq (oR [oM 21 1,oC 22 .lss 21 0,oM 23 22,oMg 24 1 23 false,oFg 25 0 4 23 false,oP 26 25 23 false,oHg 27 26 23 false,oBg 28 .geq 24 27 23 false,oPo 29 23 28] (oD 29 (oR [oZ 8 false] .ret) .skip)) (oR [oF 30 0 4,oL 31 30,oM 32 1,oI 33 10 31 32,oA 34 10 33,oY 9 zze,oV 10 9 34] (.seq (oR [oF 35 0 6,oL 36 35,oF 37 0 9,oL 38 37,oB 39 .neq 36 38,oM 40 39,oLg 41 8 6 40 false,oG 42 (.call .any 207 [(.t 41)]) 40 false,oUg 43 42 40 false,oPo 44 40 43] (oD 44 (oR [oZ 8 false] .ret) .skip)) (.seq (oR [oF 45 0 9,oL 46 45] (.block 0 (oR [oC 48 .eql 46 2,oM 47 48] (oD 47 (oR [oF 49 2 6,oL 50 49,oF 51 2 9,oL 52 51,oB 53 .geq 50 52,oM 54 53,oFg 55 2 6 54 true,oP 56 55 54 true,oFg 57 3 9 54 true,oP 58 57 54 true,oBg 59 .leq 56 58 54 true,oPa 60 54 59,oM 8 60] .ret) (oR [oC 62 .eql 46 3,oM 61 62] (oD 61 (oR [oF 63 3 6,oL 64 63,oS 65 (.len true (.t 64)),oF 66 4 9,oL 67 66,oB 68 .leq 65 67,oM 8 68] .ret) (oR [oC 70 .eql 46 4,oM 69 70] (oD 69 (oR [oA 72 10 9,oF 73 4 6,oL 74 73,oC2 75 134 72 74,oM 71 75,oX 76 71 0,oX 77 71 1,oM 10 76,oM 11 77] (oR [oM 78 11,oM 79 78,oFg 80 9 9 79 false,oP 81 80 79 false,oMg 82 81 79 false,oMg 83 3 82 true,oUg 84 83 82 true,oPb 85 82 84 79 false,oMg 86 85 79 false,oFg 87 4 6 86 true,oP 88 87 86 true,oG 89 (.call .any 208 [(.t 88)]) 86 true,oPb 90 86 89 79 false,oPo 91 79 90,oM 8 91] .ret)) (oR [oC 93 .eql 46 5,oM 92 93] (oD 92 (.seq (oR [oF 94 6 6,oL 95 94,oH 96 95,oF 97 6 9,oL 98 97,oH 99 98,oB 100 .neq 96 99,oM 101 100,oMg 102 3 101 false,oMg 103 102 101 false,oFg 104 7 6 103 true,oP 105 104 103 true,oHg 106 105 103 true,oCi 107 .gtr 106 0 103 true,oPb 108 103 107 101 false,oPo 109 101 108] (oD 109 (oR [oZ 8 false] .ret) .skip)) (.seq (oR [oF 110 7 6,oL 111 110,oH 112 111,oJ 113 0] (.block 1 (.loop FO))) (oR [oF 149 6 9,oL 150 149,oH 151 150,oJ 152 0] (.block 3 (.loop dI))))) (oR [oC 170 .eql 46 6,oM 169 170] (oD 169 (.seq (oR [oA 172 10 9,oF 173 4 6,oL 174 173,oC2 175 109 172 174,oM 171 175,oX 176 171 0,oX 177 171 1,oM 18 176,oM 19 177] (oR [oM 178 19] (oD 178 (oR [oF 179 6 6,oL 180 179,oH 181 180,oC 182 .eql 181 1,oM 183 182,oFg 184 7 6 183 true,oP 185 184 183 true,oHg 186 185 183 true,oCi 187 .eql 186 0 183 true,oPa 188 183 187,oM 189 188,oLg 190 1 4 189 true,oFg 191 6 9 189 true,oP 192 191 189 true,oMg 193 18 189 true,oIg 194 13 192 193 189 true,oFg 195 2 194 189 true,oP 196 195 189 true,oFg 197 6 6 189 true,oP 198 197 189 true,oG 199 (.iaddr 8 (.t 198) (.c (.int .i64 0))) 189 true,oLg 200 8 199 189 true,oMg 201 3 189 true,oG 202 (.call .any 165 [(.t 190),(.t 196),(.t 200),(.t 201)]) 189 true,oPa 203 189 202,oM 8 203] .ret) .skip))) (oR [oF 204 9 9,oL 205 204,oM 206 205,oMg 207 3 206 true,oUg 208 207 206 true,oPa 209 206 208,oM 210 209,oFg 211 4 6 210 true,oP 212 211 210 true,oG 213 (.call .any 208 [(.t 212)]) 210 true,oPa 214 210 213,oM 215 214,oFg 216 6 6 215 true,oP 217 216 215 true,oHg 218 217 215 true,oCi 219 .eql 218 0 215 true,oPa 220 215 219,oM 221 220,oFg 222 7 6 221 true,oP 223 222 221 true,oHg 224 223 221 true,oCi 225 .eql 224 1 221 true,oPa 226 221 225,oM 227 226,oFg 228 7 6 227 true,oP 229 228 227 true,oG 230 (.iaddr 2 (.t 229) (.c (.int .i64 0))) 227 true,oFg 231 0 230 227 true,oP 232 231 227 true,oFg 233 4 6 227 true,oP 234 233 227 true,oBg 235 .eql 232 234 227 true,oPa 236 227 235,oM 8 236] .ret)) (oR [oC 238 .eql 46 7,oM 237 238] (oD 237 (oR [oF 239 6 6,oL 240 239,oH 241 240,oF 242 4 9,oL 243 242,oB 244 .leq 241 243,oM 245 244,oLg 246 1 4 245 true,oFg 247 8 9 245 true,oP 248 247 245 true,oFg 249 6 6 245 true,oP 250 249 245 true,oMg 251 3 245 true,oG 252 (.call .any 209 [(.t 246),(.t 248),(.t 250),(.t 251)]) 245 true,oPa 253 245 252,oM 8 253] .ret) (oR [oC 255 .eql 46 8,oM 254 255] (oD 254 (.seq (oR [oF 256 5 6,oL 257 256,oH 258 257,oF 259 4 9,oL 260 259,oB 261 .gtr 258 260,oM 262 261,oFg 263 6 6 262 false,oP 264 263 262 false,oHg 265 264 262 false,oFg 266 5 6 262 false,oP 267 266 262 false,oHg 268 267 262 false,oBg 269 .neq 265 268 262 false,oPo 270 262 269,oM 271 270,oLg 272 1 4 271 false,oFg 273 7 9 271 false,oP 274 273 271 false,oFg 275 5 6 271 false,oP 276 275 271 false,oMg 277 3 271 false,oG 278 (.call .any 209 [(.t 272),(.t 274),(.t 276),(.t 277)]) 271 false,oUg 279 278 271 false,oPo 280 271 279] (oD 280 (oR [oZ 8 false] .ret) .skip)) (.seq (oR [oJ 20 1] (.block 5 (.loop sI))) (oR [oA 301 1 4,oF 302 8 9,oL 303 302,oF 304 6 6,oL 305 304,oM 306 3,oC4 307 209 301 303 305 306,oM 8 307] .ret))) (oR [oC 309 .eql 46 9,oM 308 309] (oD 308 (oR [oF 310 6 6,oL 311 310,oH 312 311,oC 313 .leq 312 1,oM 314 313,oLg 315 1 4 314 true,oFg 316 8 9 314 true,oP 317 316 314 true,oFg 318 6 6 314 true,oP 319 318 314 true,oMg 320 3 314 true,oG 321 (.call .any 209 [(.t 315),(.t 317),(.t 319),(.t 320)]) 314 true,oPa 322 314 321,oM 8 322] .ret) .skip)))))))))))))))))) (oR [oZ 8 true] .ret)))))),[(.tmp 8)],4,[]⟩
theorem GZ:cA Tryz.prog 165 zA:=okF Tryz.func165
noncomputable def KQ:MA:=cF [47] Tryz.f166
theorem JX:cA Tryz.prog 166 KQ:=okF Tryz.func166
noncomputable def AM:MA:=cF [] Tryz.f167
theorem mR:cA Tryz.prog 167 AM:=okF Tryz.func167
def fH:MA:=⟨(oR [oQ 2 1 0,oJ 4 0] (.seq (oR [oA 6 1 2,oC1 7 74 6,oM 5 7] (oR [oM 8 5,oC 9 .neq 8 0] (oD 9 (oR [oM 10 5,oM 4 10] .ret) .skip))) (.seq (oR [oM 11 1,oC 12 .lss 11 0,oM 13 12,oMg 14 1 13 false,oFg 15 0 2 13 false,oP 16 15 13 false,oHg 17 16 13 false,oBg 18 .geq 14 17 13 false,oPo 19 13 18] (oD 19 (oR [oJ 4 4] .ret) .skip)) (oR [oJ 4 0] .ret)))),[(.tmp 4)],2,[]⟩
theorem rT:cA Tryz.prog 214 fH:=okF Tryz.func214
def QF:MA:=⟨(oR [oY 2 zza,oZ 3 false] (oR [oM 4 0,oM 5 0,oK 6 5,oF 7 2 6,oL 8 7,oC1 9 235 8,oK 10 4,oF 11 3 10,oW 11 9] (oR [oS 12 (.build zza []),oV 8 2 12,oZ 3 false] .ret))),[(.cell 2 true 8),(.tmp 3)],1,[3000000]⟩
theorem SP:cA Tryz.prog 215 QF:=okF Tryz.func215
noncomputable def AJ:MA:=cF [] Tryz.f216
theorem sO:cA Tryz.prog 216 AJ:=okF Tryz.func216
noncomputable def UK:MA:=cF [] Tryz.f217
theorem wP:cA Tryz.prog 217 UK:=okF Tryz.func217
def QI:C:=oR [oB 18 .lss 17 16] (.seq (oD 18 .skip (.exit 0)) (.seq (.block 1 (oR [oM 19 17,oI 20 8 15 17,oA 21 8 20,oY 12 zza,oM 11 19,oV 8 12 21] (oR [oM 23 0,oM 24 11,oM 25 1,oA 26 8 12,oM 27 3,oS 28 (.callr .any 238 [(.t 23),(.t 24),(.t 25),(.t 26),(.t 27)]),oM 22 28,oX 29 22 0,oX 30 22 1,oY 13 zza,oV 8 13 29,oM 14 30] (.seq (oR [oM 31 14,oU 32 31] (oD 32 (oR [oS 8 (.mv (.c (.sl true []))),oZ 9 false] .ret) .skip)) (.reg [oM 33 10,oA 34 8 13,oS 35 (.bsl zza 1 [(0,(.t 34))]),oAp 36 41 8 120 33 35,oM 10 36]))))) (.reg [oC 37 .add 17 1,oM 17 37])))
def sF:MA:=⟨(oR [oS 8 (.mv (.c (.sl true []))),oZ 9 false] (oR [oS 10 (.mv (.c (.sl true [])))] (.seq (oR [oM 15 2,oH 16 15,oJ 17 0] (.block 0 (.loop QI))) (oR [oM 38 10,oM 8 38,oZ 9 true] .ret)))),[(.tmp 8),(.tmp 9)],4,[3000000,57]⟩
theorem qP:cA Tryz.prog 218 sF:=okF Tryz.func218
def pC:MA:=⟨(oR [oQ 2 13 0,oQ 3 13 1,oZ 4 false] (oR [oF 5 0 2,oL 6 5,oF 7 0 3,oL 8 7,oB 9 .eql 6 8,oM 10 9,oFg 11 1 2 10 true,oP 12 11 10 true,oFg 13 1 3 10 true,oP 14 13 10 true,oBg 15 .eql 12 14 10 true,oPa 16 10 15,oM 17 16,oFg 18 2 2 17 true,oP 19 18 17 true,oFg 20 2 3 17 true,oP 21 20 17 true,oBg 22 .eql 19 21 17 true,oPa 23 17 22,oM 24 23,oFg 25 3 2 24 true,oP 26 25 24 true,oFg 27 3 3 24 true,oP 28 27 24 true,oG 29 (.bin .eql true (.t 26) (.t 28)) 24 true,oPa 30 24 29,oM 31 30,oFg 32 4 2 31 true,oP 33 32 31 true,oFg 34 4 3 31 true,oP 35 34 31 true,oG 36 (.bin .eql true (.t 33) (.t 35)) 31 true,oPa 37 31 36,oM 38 37,oFg 39 5 2 38 true,oLg 40 8 39 38 true,oFg 41 5 3 38 true,oLg 42 8 41 38 true,oCg 43 51 40 42 38 true,oPa 44 38 43,oM 4 44] .ret)),[(.tmp 4)],2,[]⟩
theorem TQ:cA Tryz.prog 195 pC:=okF Tryz.func195
def CI:MA:=⟨(oR [oZ 2 false] (oR [oM 3 0,oS 4 (.bin .geq false (.t 3) (.c (.int .u8 97))),oM 5 4,oMg 6 0 5 true,oG 7 (.bin .leq false (.t 6) (.c (.int .u8 122))) 5 true,oPa 8 5 7,oM 9 8,oMg 10 0 9 false,oG 11 (.bin .geq false (.t 10) (.c (.int .u8 65))) 9 false,oMg 12 11 9 false,oMg 13 0 12 true,oG 14 (.bin .leq false (.t 13) (.c (.int .u8 90))) 12 true,oPb 15 12 14 9 false,oPo 16 9 15,oM 17 16,oMg 18 0 17 false,oG 19 (.bin .eql false (.t 18) (.c (.int .u8 95))) 17 false,oPo 20 17 19,oM 2 20] .ret)),[(.tmp 2)],1,[]⟩
theorem eW:cA Tryz.prog 196 CI:=okF Tryz.func196
def sK:MA:=⟨(oR [oZ 2 false] (oR [oM 3 0,oS 4 (.bin .geq false (.t 3) (.c (.int .u8 48))),oM 5 4,oMg 6 0 5 true,oG 7 (.bin .leq false (.t 6) (.c (.int .u8 57))) 5 true,oPa 8 5 7,oM 2 8] .ret)),[(.tmp 2)],1,[]⟩
theorem LX:cA Tryz.prog 197 sK:=okF Tryz.func197
def XN:MA:=⟨(oR [oZ 4 false] (oR [oM 5 1,oM 6 0,oB 7 .gtr 5 6,oM 8 7,oMg 9 1 8 true,oCi 10 .geq 9 1 8 true,oPa 11 8 10,oM 12 11,oMg 13 1 12 true,oCi 14 .leq 13 1000 12 true,oPa 15 12 14,oM 4 15] .ret)),[(.tmp 4)],2,[]⟩
theorem G7:cA Tryz.prog 198 XN:=okF Tryz.func198
def dH:MA:=⟨(oR [oZ 2 false] (oR [oM 3 0,oS 4 (.bin .eql false (.t 3) (.c (.int .u8 95))),oM 5 4,oMg 6 0 5 false,oG 7 (.bin .geq false (.t 6) (.c (.int .u8 97))) 5 false,oMg 8 7 5 false,oMg 9 0 8 true,oG 10 (.bin .leq false (.t 9) (.c (.int .u8 122))) 8 true,oPb 11 8 10 5 false,oPo 12 5 11,oM 13 12,oMg 14 0 13 false,oG 15 (.bin .geq false (.t 14) (.c (.int .u8 65))) 13 false,oMg 16 15 13 false,oMg 17 0 16 true,oG 18 (.bin .leq false (.t 17) (.c (.int .u8 90))) 16 true,oPb 19 16 18 13 false,oPo 20 13 19,oM 2 20] .ret)),[(.tmp 2)],1,[]⟩
theorem qT:cA Tryz.prog 199 dH:=okF Tryz.func199
def qI:MA:=⟨(oR [oZ 2 false] (oR [oM 3 0,oS 4 (.bin .geq false (.t 3) (.c (.int .u8 48))),oM 5 4,oMg 6 0 5 true,oG 7 (.bin .leq false (.t 6) (.c (.int .u8 57))) 5 true,oPa 8 5 7,oM 2 8] .ret)),[(.tmp 2)],1,[]⟩
theorem bU:cA Tryz.prog 200 qI:=okF Tryz.func200
def SB:C:=oR [oB 12 .lss 11 10] (.seq (oD 12 .skip (.exit 0)) (.seq (.block 1 (oR [oM 13 11,oI 14 1 9 11,oL 15 14,oM 6 13,oM 7 15] (.seq (oR [oM 16 7,oC 17 .lss 16 1,oM 18 17,oMg 19 7 18 false,oCi 20 .gtr 19 1000 18 false,oPo 21 18 20,oM 22 21,oMg 23 6 22 false,oCi 24 .gtr 23 0 22 false,oMg 25 24 22 false,oMg 26 7 25 true,oMg 27 0 25 true,oMg 28 6 25 true,oCi 29 .sub 28 1 25 true,oIg 30 1 27 29 25 true,oP 31 30 25 true,oBg 32 .leq 26 31 25 true,oPb 33 25 32 22 false,oPo 34 22 33,oM 35 34,oMg 36 5 35 false,oMg 37 1 35 false,oMg 38 6 35 false,oIg 39 1 37 38 35 false,oP 40 39 35 false,oG 41 (.mget false .none (.bool false) (.t 36) (.t 40)) 35 false,oPo 42 35 41,oM 43 42,oMg 44 1 43 false,oMg 45 6 43 false,oIg 46 1 44 45 43 false,oP 47 46 43 false,oG 48 (.call .any 161 [(.t 47)]) 43 false,oUg 49 48 43 false,oPo 50 43 49] (oD 50 (oR [oZ 4 false] .ret) .skip)) (.reg [oM 51 5,oM 52 1,oM 53 6,oI 54 1 52 53,oL 55 54,oN (.mset .none (.t 51) (.t 55) (.c (.bool true)))])))) (.reg [oC 56 .add 11 1,oM 11 56])))
def nL:MA:=⟨(oR [oZ 4 false] (oR [oS 8 (.mkm),oM 5 8] (.seq (oR [oM 9 0,oH 10 9,oJ 11 0] (.block 0 (.loop SB))) (oR [oM 57 0,oH 58 57,oC 59 .leq 58 16,oM 4 59] .ret)))),[(.tmp 4)],2,[]⟩
theorem AZ:cA Tryz.prog 201 nL:=okF Tryz.func201
def uJ:MA:=⟨(oR [oQ 1 8 0,oZ 2 false] (oR [oA 3 8 1,oS 4 (.build zza []),oC2 5 206 3 4,oM 2 5] .ret)),[(.tmp 2)],1,[]⟩
theorem sW:cA Tryz.prog 202 uJ:=okF Tryz.func202
def DB:C:=oR [oB 14 .lss 13 12] (.seq (oD 14 .skip (.exit 0)) (.seq (.block 1 (oR [oM 15 13,oM 5 15] (oR [oM 16 0,oM 17 5,oI 18 2 16 17,oA 19 2 18,oM 20 1,oM 21 5,oI 22 2 20 21,oA 23 2 22,oS 24 (.eqa true [0,1] (.t 19) (.t 23))] (oD 24 (oR [oZ 4 false] .ret) .skip)))) (.reg [oC 25 .add 13 1,oM 13 25])))
def FC:MA:=⟨(oR [oZ 4 false] (.seq (oR [oM 6 0,oH 7 6,oM 8 1,oH 9 8,oB 10 .neq 7 9] (oD 10 (oR [oZ 4 false] .ret) .skip)) (.seq (oR [oM 11 0,oH 12 11,oJ 13 0] (.block 0 (.loop DB))) (oR [oZ 4 true] .ret)))),[(.tmp 4)],2,[]⟩
theorem aM:cA Tryz.prog 203 FC:=okF Tryz.func203
def HB:C:=oR [oB 18 .lss 17 16] (.seq (oD 18 .skip (.exit 0)) (.seq (.block 1 (oR [oM 19 17,oI 20 13 15 17,oA 21 13 20,oY 8 zzh,oM 7 19,oV 13 8 21] (oR [oM 22 1,oM 23 7,oI 24 13 22 23,oA 25 13 24,oY 9 zzh,oV 13 9 25] (oR [oM 26 2,oA 27 13 8,oA 28 13 9,oS 29 (.callv .any (.t 26) [(.t 27),(.t 28)]),oU 30 29] (oD 30 (oR [oZ 6 false] .ret) .skip))))) (.reg [oC 31 .add 17 1,oM 17 31])))
def eC:MA:=⟨(oR [oZ 6 false] (.seq (oR [oM 10 0,oH 11 10,oM 12 1,oH 13 12,oB 14 .neq 11 13] (oD 14 (oR [oZ 6 false] .ret) .skip)) (.seq (oR [oM 15 0,oH 16 15,oJ 17 0] (.block 0 (.loop HB))) (oR [oZ 6 true] .ret)))),[(.tmp 6)],3,[]⟩
theorem wK:cA Tryz.prog 204 eC:=okF Tryz.func204
def zC:MA:=⟨(oR [oQ 2 13 0,oQ 3 13 1,oZ 4 false] (oR [oF 5 0 2,oL 6 5,oF 7 0 3,oL 8 7,oB 9 .eql 6 8,oM 10 9,oFg 11 1 2 10 true,oP 12 11 10 true,oFg 13 1 3 10 true,oP 14 13 10 true,oBg 15 .eql 12 14 10 true,oPa 16 10 15,oM 17 16,oFg 18 2 2 17 true,oP 19 18 17 true,oFg 20 2 3 17 true,oP 21 20 17 true,oBg 22 .eql 19 21 17 true,oPa 23 17 22,oM 24 23,oFg 25 3 2 24 true,oP 26 25 24 true,oFg 27 3 3 24 true,oP 28 27 24 true,oG 29 (.bin .eql true (.t 26) (.t 28)) 24 true,oPa 30 24 29,oM 31 30,oFg 32 4 2 31 true,oP 33 32 31 true,oFg 34 4 3 31 true,oP 35 34 31 true,oG 36 (.bin .eql true (.t 33) (.t 35)) 31 true,oPa 37 31 36,oM 38 37,oFg 39 5 2 38 true,oLg 40 8 39 38 true,oFg 41 5 3 38 true,oLg 42 8 41 38 true,oCg 43 206 40 42 38 true,oPa 44 38 43,oM 4 44] .ret)),[(.tmp 4)],2,[]⟩
theorem PR:cA Tryz.prog 205 zC:=okF Tryz.func205
def NC:MA:=⟨(oR [oQ 2 8 0,oQ 3 8 1,oZ 4 false] (oR [oF 5 0 2,oL 6 5,oF 7 0 3,oL 8 7,oB 9 .eql 6 8,oM 10 9,oFg 11 1 2 10 true,oP 12 11 10 true,oFg 13 1 3 10 true,oP 14 13 10 true,oG 15 (.bin .eql true (.t 12) (.t 14)) 10 true,oPa 16 10 15,oM 17 16,oFg 18 2 2 17 true,oP 19 18 17 true,oFg 20 2 3 17 true,oP 21 20 17 true,oBg 22 .eql 19 21 17 true,oPa 23 17 22,oM 24 23,oFg 25 3 2 24 true,oP 26 25 24 true,oFg 27 3 3 24 true,oP 28 27 24 true,oBg 29 .eql 26 28 24 true,oPa 30 24 29,oM 31 30,oFg 32 4 2 31 true,oP 33 32 31 true,oFg 34 4 3 31 true,oP 35 34 31 true,oBg 36 .eql 33 35 31 true,oPa 37 31 36,oM 38 37,oFg 39 7 2 38 true,oP 40 39 38 true,oFg 41 7 3 38 true,oP 42 41 38 true,oCg 43 187 40 42 38 true,oPa 44 38 43,oM 45 44,oFg 46 5 2 45 true,oP 47 46 45 true,oFg 48 5 3 45 true,oP 49 48 45 true,oG 50 (.call .any 188 [(.t 47),(.t 49),(.c (.fn 206 []))]) 45 true,oPa 51 45 50,oM 52 51,oFg 53 6 2 52 true,oP 54 53 52 true,oFg 55 6 3 52 true,oP 56 55 52 true,oG 57 (.call .any 188 [(.t 54),(.t 56),(.c (.fn 206 []))]) 52 true,oPa 58 52 57,oM 4 58] .ret)),[(.tmp 4)],2,[]⟩
theorem sY:cA Tryz.prog 206 NC:=okF Tryz.func206
def UC:MA:=⟨(oR [oQ 1 8 0,oZ 2 false] (oR [oA 4 8 1,oC1 5 220 4,oY 3 zza,oV 8 3 5] (oR [oF 6 1 1,oL 7 6,oF 8 1 3,oL 9 8,oS 10 (.bin .eql true (.t 7) (.t 9)),oM 11 10,oFg 12 2 1 11 true,oP 13 12 11 true,oFg 14 2 3 11 true,oP 15 14 11 true,oBg 16 .eql 13 15 11 true,oPa 17 11 16,oM 18 17,oFg 19 3 1 18 true,oP 20 19 18 true,oFg 21 3 3 18 true,oP 22 21 18 true,oBg 23 .eql 20 22 18 true,oPa 24 18 23,oM 25 24,oFg 26 4 1 25 true,oP 27 26 25 true,oFg 28 4 3 25 true,oP 29 28 25 true,oBg 30 .eql 27 29 25 true,oPa 31 25 30,oM 32 31,oFg 33 5 1 32 true,oP 34 33 32 true,oHg 35 34 32 true,oFg 36 5 3 32 true,oP 37 36 32 true,oHg 38 37 32 true,oBg 39 .eql 35 38 32 true,oPa 40 32 39,oM 41 40,oFg 42 6 1 41 true,oP 43 42 41 true,oHg 44 43 41 true,oFg 45 6 3 41 true,oP 46 45 41 true,oHg 47 46 41 true,oBg 48 .eql 44 47 41 true,oPa 49 41 48,oM 50 49,oFg 51 7 1 50 true,oP 52 51 50 true,oHg 53 52 50 true,oFg 54 7 3 50 true,oP 55 54 50 true,oHg 56 55 50 true,oBg 57 .eql 53 56 50 true,oPa 58 50 57,oM 2 58] .ret))),[(.tmp 2)],1,[]⟩
theorem fW:cA Tryz.prog 207 UC:=okF Tryz.func207
noncomputable def fS:MA:=cF [] Tryz.f208
theorem HZ:cA Tryz.prog 208 fS:=okF Tryz.func208
def mL:MA:=⟨(oR [oQ 4 1 0,oQ 5 1 1,oQ 7 1 3,oZ 8 false] (oR [oM 9 2,oS 10 (.mkf 222 [(.t 4),(.t 5),(.t 7)]),oC2 11 221 9 10,oU 12 11,oM 8 12] .ret)),[(.tmp 8)],4,[]⟩
theorem FZ:cA Tryz.prog 209 mL:=okF Tryz.func209
def PC:MA:=⟨(oR [oQ 2 8 0,oQ 3 8 1,oJ 4 0] (.seq (oR [oF 5 0 2,oL 6 5,oF 7 0 3,oL 8 7,oB 9 .neq 6 8] (oD 9 (oR [oJ 4 0] .ret) .skip)) (.seq (oR [oF 10 0 2,oL 11 10] (.block 0 (oR [oC 13 .eql 11 1,oM 12 13] (oD 12 (.seq (.block 1 (oR [oF 15 1 2,oL 16 15,oF 17 1 3,oL 18 17,oS 19 (.bin .eql true (.t 16) (.t 18)),oM 14 19] (oD 14 (oR [oJ 4 0] .ret) (oR [oF 21 1 3,oL 22 21,oM 20 22] (oD 20 (oR [oJ 4 (-1)] .ret) .skip))))) (oR [oJ 4 1] .ret)) (oR [oC 24 .eql 11 2,oM 23 24] (oD 23 (oR [oF 25 2 2,oL 26 25,oC1 27 224 26,oF 28 2 3,oL 29 28,oC1 30 224 29,oC2 31 223 27 30,oM 4 31] .ret) (oR [oC 33 .eql 11 3,oM 32 33] (oD 32 (oR [oF 34 3 2,oL 35 34,oS 36 (.len true (.t 35)),oF 37 3 3,oL 38 37,oS 39 (.len true (.t 38)),oC2 40 112 36 39,oF 41 3 2,oL 42 41,oF 43 3 3,oL 44 43,oC2 45 226 42 44,oS 46 (.bsl [(.int .i64 0)] 2 [(0,(.t 40)),(1,(.t 45))]),oC1 47 225 46,oM 4 47] .ret) (oR [oC 49 .eql 11 4,oM 48 49] (oD 48 (oR [oF 50 4 2,oL 51 50,oF 52 4 3,oL 53 52,oC2 54 112 51 53,oM 4 54] .ret) .skip)))))))))) (oR [oJ 4 0] .ret)))),[(.tmp 4)],2,[]⟩
theorem JU:cA Tryz.prog 210 PC:=okF Tryz.func210
noncomputable def jN:MA:=cF [] Tryz.f211
theorem JS:cA Tryz.prog 211 jN:=okF Tryz.func211
noncomputable def mI:MA:=cF [3000000,20,117,131,163,209,227] Tryz.f212
theorem uN:cA Tryz.prog 212 mI:=okF Tryz.func212
noncomputable def QO:MA:=cF [49] Tryz.f213
theorem sU:cA Tryz.prog 213 QO:=okF Tryz.func213
def tG:MA:=⟨(oR [oS 2 (.mv (.c (.sl true [])))] (.seq (oR [oM 3 0,oS 4 (.eqn false false (.t 3) (.c (.sl true [])))] (oD 4 (oR [oS 2 (.mv (.c (.sl true [])))] .ret) .skip)) (oR [oS 5 (.bsl [(.int .i64 0)] 0 []),oM 6 0,oAp 7 3 1 8 5 6,oM 2 7] .ret))),[(.tmp 2)],1,[]⟩
theorem FQ:cA Tryz.prog 235 tG:=okF Tryz.func235
noncomputable def PJ:MA:=cF [] Tryz.f236
theorem aO:cA Tryz.prog 236 PJ:=okF Tryz.func236
noncomputable def nN:MA:=cF [] Tryz.f237
theorem wT:cA Tryz.prog 237 nN:=okF Tryz.func237
noncomputable def iL:MA:=cF [] Tryz.f238
theorem DP:cA Tryz.prog 238 iL:=okF Tryz.func238
noncomputable def uL:MA:=cF [] Tryz.f239
theorem AP:cA Tryz.prog 239 uL:=okF Tryz.func239
noncomputable def FM:MA:=cF [] Tryz.f240
theorem RR:cA Tryz.prog 240 FM:=okF Tryz.func240
def bB:MA:=⟨(oR [oQ 1 8 0,oY 2 zza] (oR [oF 4 0 1,oL 5 4,oS 6 (.build zza [(0,(1,(.t 5)))]),oY 3 zza,oV 8 3 6] (.seq (oR [oF 7 0 1,oL 8 7] (.block 0 (oR [oC 10 .eql 8 1,oM 9 10] (oD 9 (.reg [oF 11 1 1,oL 12 11,oF 13 1 3,oW 13 12]) (oR [oC 15 .eql 8 2,oM 14 15] (oD 14 (.reg [oF 16 2 1,oL 17 16,oF 18 2 3,oW 18 17]) (oR [oC 20 .eql 8 3,oM 19 20] (oD 19 (.reg [oF 21 3 1,oL 22 21,oF 23 3 3,oW 23 22]) (oR [oC 25 .eql 8 4,oM 24 25] (oD 24 (.reg [oF 26 4 1,oL 27 26,oF 28 4 3,oW 28 27]) (oR [oC 30 .eql 8 5,oM 29 30] (oD 29 (.reg [oF 31 6 1,oLr 32 1 1 31,oF 33 7 1,oLr 34 1 1 33,oF 35 6 3,oN (.store (.root 3) false 1 (.t 35) (.t 32)),oF 36 7 3,oN (.store (.root 3) false 1 (.t 36) (.t 34))]) (oR [oC 38 .eql 8 6,oM 37 38] (oD 37 (.reg [oF 39 4 1,oLr 40 1 1 39,oF 41 6 1,oLr 42 1 1 41,oF 43 7 1,oLr 44 1 1 43,oF 45 4 3,oN (.store (.root 3) false 1 (.t 45) (.t 40)),oF 46 6 3,oN (.store (.root 3) false 1 (.t 46) (.t 42)),oF 47 7 3,oN (.store (.root 3) false 1 (.t 47) (.t 44))]) (oR [oC 49 .eql 8 8,oM 48 49] (oD 48 (.reg [oF 50 5 1,oLr 51 1 1 50,oF 52 6 1,oLr 53 1 1 52,oF 54 5 3,oN (.store (.root 3) false 1 (.t 54) (.t 51)),oF 55 6 3,oN (.store (.root 3) false 1 (.t 55) (.t 53))]) (.seq (oR [oC 57 .eql 8 7,oM 56 57] (oD 56 .skip (.reg [oC 58 .eql 8 9,oM 56 58]))) (oD 56 (.reg [oF 59 6 1,oL 60 59,oF 61 6 3,oW 61 60]) .skip)))))))))))))))))) (oR [oA 62 8 3,oV 8 2 62] .ret)))),[(.cell 2 true 8)],1,[]⟩
theorem DZ:cA Tryz.prog 220 bB:=okF Tryz.func220
def QC:MA:=⟨(oR [oZ 4 false] (oR [oM 5 0,oM 6 1,oC2 7 241 5 6,oC 8 .geq 7 0,oM 4 8] .ret)),[(.tmp 4)],2,[]⟩
theorem kJ:cA Tryz.prog 221 QC:=okF Tryz.func221
def aI:MA:=⟨(oR [oQ 4 8 0,oZ 5 false] (oR [oA 6 1 1,oL 7 2,oA 8 8 4,oL 9 3,oC4 10 165 6 7 8 9,oU 11 10,oM 5 11] .ret)),[(.tmp 5)],4,[]⟩
theorem KU:cA Tryz.prog 222 aI:=okF Tryz.func222
def tE:MA:=⟨(oR [oJ 4 0] (oR [oM 7 0,oC1 8 242 7,oM 5 8] (oR [oM 9 1,oC1 10 242 9,oM 6 10] (.seq (oR [oM 11 5] (oD 11 (.seq (oR [oM 12 6] (oD 12 (oR [oJ 4 0] .ret) .skip)) (oR [oJ 4 (-1)] .ret)) .skip)) (.seq (oR [oM 13 6] (oD 13 (oR [oJ 4 1] .ret) .skip)) (.seq (oR [oM 14 0,oM 15 1,oB 16 .lss 14 15] (oD 16 (oR [oJ 4 (-1)] .ret) .skip)) (.seq (oR [oM 17 0,oM 18 1,oB 19 .gtr 17 18] (oD 19 (oR [oJ 4 1] .ret) .skip)) (oR [oJ 4 0] .ret)))))))),[(.tmp 4)],2,[]⟩
theorem MO:cA Tryz.prog 223 tE:=okF Tryz.func223
def lG:MA:=⟨(oR [oS 2 (.mv (.c (.int .u64 0)))] (oR [oM 3 0,oS 4 (.conv (.some .u64) (.t 3)),oS 5 (.bin .shl false (.t 4) (.c (.int .u64 1))),oM 6 0,oS 7 (.bin .shr false (.t 6) (.c (.int .u64 63))),oS 8 (.conv (.some .u64) (.t 7)),oB 9 .xor 5 8,oM 2 9] .ret)),[(.tmp 2)],1,[]⟩
theorem LU:cA Tryz.prog 224 lG:=okF Tryz.func224
def rF:C:=oR [oB 9 .lss 8 7] (.seq (oD 9 .skip (.exit 0)) (.seq (.block 1 (oR [oI 10 1 6 8,oL 11 10,oM 5 11] (oR [oM 12 5,oM 13 3,oB 14 .neq 12 13] (oD 14 (oR [oM 15 5,oM 2 15] .ret) .skip)))) (.reg [oC 16 .add 8 1,oM 8 16])))
def fL:MA:=⟨(oR [oJ 2 0] (oR [oJ 3 0] (.seq (oR [oM 6 0,oH 7 6,oJ 8 0] (.block 0 (.loop rF))) (oR [oM 17 3,oM 2 17] .ret)))),[(.tmp 2)],1,[]⟩
theorem xZ:cA Tryz.prog 225 fL:=okF Tryz.func225
def gD:MA:=⟨(oR [oJ 4 0] (oR [oM 7 0,oC1 8 243 7,oM 5 8] (oR [oM 9 1,oC1 10 243 9,oM 6 10] (.seq (oR [oM 11 5] (oD 11 (.seq (oR [oM 12 6] (oD 12 (oR [oJ 4 0] .ret) .skip)) (oR [oJ 4 (-1)] .ret)) .skip)) (.seq (oR [oM 13 6] (oD 13 (oR [oJ 4 1] .ret) .skip)) (.seq (oR [oM 14 0,oM 15 1,oB 16 .lss 14 15] (oD 16 (oR [oJ 4 (-1)] .ret) .skip)) (.seq (oR [oM 17 0,oM 18 1,oB 19 .gtr 17 18] (oD 19 (oR [oJ 4 1] .ret) .skip)) (oR [oJ 4 0] .ret)))))))),[(.tmp 4)],2,[]⟩
theorem NO:cA Tryz.prog 226 gD:=okF Tryz.func226
noncomputable def kN:MA:=cF [] Tryz.f227
theorem KS:cA Tryz.prog 227 kN:=okF Tryz.func227
noncomputable def dS:MA:=cF [] Tryz.f228
theorem SZ:cA Tryz.prog 228 dS:=okF Tryz.func228
noncomputable def gS:MA:=cF [] Tryz.f229
theorem JZ:cA Tryz.prog 229 gS:=okF Tryz.func229
noncomputable def ZI:MA:=cF [3000000,28,109,147,101,1000000 + 246] Tryz.f230
theorem IN:cA Tryz.prog 230 ZI:=okF Tryz.func230
noncomputable def OJ:MA:=cF [3000000,93] Tryz.f231
theorem pO:cA Tryz.prog 231 OJ:=okF Tryz.func231
noncomputable def lP:MA:=cF [] Tryz.f233
theorem BV:cA Tryz.prog 233 lP:=okF Tryz.func233
noncomputable def FH:MA:=cF [] Tryz.f250
theorem bM:cA Tryz.prog 250 FH:=okF Tryz.func250
noncomputable def iJ:MA:=cF [] Tryz.f251
theorem ON:cA Tryz.prog 251 iJ:=okF Tryz.func251
noncomputable def jP:MA:=cF [] Tryz.f252
theorem XV:cA Tryz.prog 252 jP:=okF Tryz.func252
noncomputable def jS:MA:=cF [] Tryz.f248
theorem KZ:cA Tryz.prog 248 jS:=okF Tryz.func248
noncomputable def AO:MA:=cF [] Tryz.f253
theorem QU:cA Tryz.prog 253 AO:=okF Tryz.func253
def WC:C:=oR [oB 9 .lss 8 7] (.seq (oD 9 .skip (.exit 0)) (.seq (.block 1 (oR [oM 10 8,oM 5 10] (oR [oM 11 1,oM 12 0,oM 13 5,oI 14 8 12 13,oA 15 8 14,oS 16 (.callv .any (.t 11) [(.t 15)])] (oD 16 (oR [oM 17 5,oM 4 17] .ret) .skip)))) (.reg [oC 18 .add 8 1,oM 8 18])))
def aD:MA:=⟨(oR [oJ 4 0] (.seq (oR [oM 6 0,oH 7 6,oJ 8 0] (.block 0 (.loop WC))) (oR [oJ 4 (-1)] .ret))),[(.tmp 4)],2,[]⟩
theorem KK:cA Tryz.prog 241 aD:=okF Tryz.func241
def BF:MA:=⟨(oR [oZ 2 false] (oR [oM 3 0,oM 4 0,oB 5 .neq 3 4,oM 2 5] .ret)),[(.tmp 2)],1,[]⟩
theorem EQ:cA Tryz.prog 242 BF:=okF Tryz.func242
def CF:MA:=⟨(oR [oZ 2 false] (oR [oM 3 0,oM 4 0,oB 5 .neq 3 4,oM 2 5] .ret)),[(.tmp 2)],1,[]⟩
theorem WQ:cA Tryz.prog 243 CF:=okF Tryz.func243
noncomputable def lN:MA:=cF [] Tryz.f244
theorem LS:cA Tryz.prog 244 lN:=okF Tryz.func244
noncomputable def kP:MA:=cF [] Tryz.f245
theorem CV:cA Tryz.prog 245 kP:=okF Tryz.func245
noncomputable def DF:MA:=cF [1000000 + 254] Tryz.f246
theorem TJ:cA Tryz.prog 246 DF:=okF Tryz.func246
noncomputable def RH:MA:=cF [] Tryz.f247
theorem pM:cA Tryz.prog 247 RH:=okF Tryz.func247
noncomputable def mE:MA:=cF [1000000 + 256] Tryz.f254
theorem cH:cA Tryz.prog 254 mE:=okF Tryz.func254
noncomputable def nD:MA:=cF [] Tryz.f256
theorem JF:cA Tryz.prog 256 nD:=okF Tryz.func256
section
def GQ {α:Type} (f:(α->aA->Option RV)->Option RV):Prop:=(∀ k,f k=none)\/∃ e s',∀ k,f k=k e s'
def Det1 (f:(aA->Option RV)->Option RV):Prop:=(∀ k,f k=none)\/∃ s',∀ k,f k=k s'
theorem GQ.bind {α β:Type} {f:(α->aA->Option RV)->Option RV} (h:GQ f) {g:(β->aA->Option RV)->α->aA->Option RV} (hg:∀ e s,GQ fun k=>g k e s):GQ fun k=>f (g k):=by
 rcases h with h | ⟨e,s,h⟩
 ·exact .inl fun k=>h _
 ·rcases hg e s with h2 | ⟨e',s',h2⟩
  ·exact .inl fun k=>(h _).trans (h2 k)
  ·exact .inr ⟨e',s',fun k=>(h _).trans (h2 k)⟩
theorem GQ.here {α:Type} (e:α) (s:aA):GQ fun (k:α->aA->Option RV)=>k e s:=.inr ⟨e,s,fun _=>rfl⟩
theorem GQ.no {α:Type}:GQ fun (_:α->aA->Option RV)=>none:=.inl fun _=>rfl
def C.det:C->Bool
 | .seq a b=>a.det&&b.det
 | .reg ops=>ops.all fun o=>match o.op with | .nxt _=>false | _=>true
 | .cond _ a b=>a.det&&b.det
 | .block _ b=>b.det
 | .loop b=>b.det
 | _=>true
section
variable {call:JB} {lh:LH}
theorem O9 (s:aA) (d:Option Nat) (g:Option (Nat × Bool)) {a:(aA->Option RV)->Option RV} (ha:Det1 a):Det1 fun k=>BJ s d g (a k) k:=by
 unfold BJ;cases g with
 | none=>exact ha
 | some p =>
  obtain ⟨t,want⟩:=p;simp only;split
  ·split
   ·exact ha
   ·exact .inr ⟨_,fun _=>rfl⟩
  ·exact .inr ⟨_,fun _=>rfl⟩
  ·exact .inl fun _=>rfl
theorem det_hstep (hh:∀ f xs s,GQ (lh.h f xs s)) (d:Option Nat) (nt:Nat) (x:aC) (xs:List aC) (s:aA):Det1 (KO lh d nt x xs s):=by
 unfold KO;split
 ·rcases hh _ (fP s xs++_) (s.enter nt) with h | ⟨y,s',h⟩
  ·exact .inl fun k=>h _
  ·exact .inr ⟨_,fun k=>h _⟩
 ·exact .inl fun _=>rfl
theorem det_stepK (hh:∀ f xs s,GQ (lh.h f xs s)) (o:TA) (ho:(match o.op with | .nxt _=>false | _=>true)=true) (s:aA):Det1 (o.stepK call lh s):=by
 have hp:∀ (a:Option aA),Det1 fun k=>a.bind k:=fun a=>by
  cases a with
  | none=>exact .inl fun _=>rfl
  | some s'=>exact .inr ⟨s',fun _=>rfl⟩
 unfold TA.stepK;split
 ·exact O9 s _ _ (det_hstep hh _ _ _ _ s)
 ·rename_i h;rw [h] at ho;cases ho
 ·exact hp _
theorem det_ops (hh:∀ f xs s,GQ (lh.h f xs s)):∀ (l:List TA) (hl:(l.all fun o=>match o.op with | .nxt _=>false | _=>true)=true) (s:aA),Det1 (OG call lh l s)
 | [],_,s=>.inr ⟨s,fun _=>rfl⟩
 | o :: r,hl,s=>by
  rw [List.all_cons,y7] at hl;rcases det_stepK (call:=call) hh o hl.1 s with h | ⟨s',h⟩
  ·exact .inl fun k=>h _
  ·rcases det_ops hh r hl.2 s' with h2 | ⟨s2,h2⟩
   ·exact .inl fun k=>(h _).trans (h2 k)
   ·exact .inr ⟨s2,fun k=>(h _).trans (h2 k)⟩
theorem NN (hl:∀ b,b.det=true->∀ s,GQ (lh b s)) (hh:∀ f xs s,GQ (lh.h f xs s)):∀ (c:C) (hc:c.det=true) (s:aA),GQ (c.run call lh s)
 | .skip,_,s=>.inr ⟨.nrm,s,fun _=>rfl⟩
 | .exit id,_,s=>.inr ⟨.exit id,s,fun _=>rfl⟩
 | .ret,_,s=>.inr ⟨.ret,s,fun _=>rfl⟩
 | .seq a b,hc,s=>by
  simp only [C.det,y7] at hc;refine (NN hl hh a hc.1 s).bind (g:=fun k e s=>match e with | .nrm=>b.run call lh s k | e=>k e s) fun e s=>?_
  cases e with
  | nrm=>exact NN hl hh b hc.2 s
  | exit id=>exact GQ.here _ _
  | ret=>exact GQ.here _ _
 | .reg ops,hc,s=>by
  rcases det_ops (call:=call) hh ops hc s with h | ⟨s',h⟩
  ·exact .inl fun k=>h _
  ·exact .inr ⟨_,_,fun k=>h _⟩
 | .cond c t e,hc,s=>by
  simp only [C.det,y7] at hc;simp only [C.run];split
  ·split
   ·exact NN hl hh t hc.1 s
   ·exact NN hl hh e hc.2 s
  ·exact GQ.no
 | .block id b,hc,s=>(NN hl hh b hc s).bind (g:=fun k e s=>match e with | .exit j=>if j=id then k .nrm s else k (.exit j) s | e=>k e s) fun e s=>by
  cases e with
  | nrm=>exact GQ.here _ _
  | ret=>exact GQ.here _ _
  | exit j =>
   simp only;split
   ·exact GQ.here _ _
   ·exact GQ.here _ _
 | .loop b,hc,s=>hl b hc s
end
section
variable {T:Nat->Option MA} {ext:JB}
theorem det_N (hD:∀ f c,T f=some c->c.code.det=true):∀ n,(∀ b,b.det=true->∀ s,GQ (BK T ext n b s))/\∀ f xs s,GQ (kM T ext n f xs s)
 | 0=>⟨fun _ _ _=>.inl fun _=>rfl,fun _ _ _=>.inl fun _=>rfl⟩
 | n + 1=>by
  obtain ⟨h1,h2⟩:=det_N hD n;have hr:=NN (call:=uE T ext n) (lh:=⟨BK T ext n,kM T ext n⟩) h1 h2;refine ⟨fun b hb s=>?_,fun f xs s=>?_⟩
  ·have:BK T ext (n + 1) b s=fun k=>b.run (uE T ext n) ⟨BK T ext n,kM T ext n⟩ s (tL (BK T ext n) b k):=by funext k; rw [BK]
   rw [this];refine (hr b hb s).bind (g:=fun k=>tL (BK T ext n) b k) fun e s=>?_
   cases e with
   | nrm=>exact h1 b hb s
   | exit id=>exact GQ.here _ _
   | ret=>exact GQ.here _ _
  ·have:kM T ext (n + 1) f xs s=fun k=>match T f with | none=>none | some c=>if xs.length=c.np then c.code.run (uE T ext n) ⟨BK T ext n,kM T ext n⟩ (s.initH xs) (mP c k) else none:=by funext k; rw [kM]; rfl
   rw [this];cases hT:T f with
   | none=>exact GQ.no
   | some c =>
    simp only;split
    ·refine (hr c.code (hD f c hT) _).bind (g:=fun k=>mP c k) fun e s=>?_
     cases e with
     | exit id=>exact GQ.no
     | nrm =>
      simp only [mP];cases (EY s c.res).bind DV with
      | none=>exact GQ.no
      | some x=>exact GQ.here _ _
     | ret =>
      simp only [mP];cases (EY s c.res).bind DV with
      | none=>exact GQ.no
      | some x=>exact GQ.here _ _
    ·exact GQ.no
theorem d3 (hD:∀ f c,T f=some c->c.code.det=true) {c:C} (hc:c.det=true) {s:aA} {F:Ex->aA->Prop} (h:∀ (k:Ex->aA->Option RV) (r:RV),(∀ e s',F e s'->k e s'=some r)->c.run (dF T ext) (RJ T ext) s k=some r):∃ e s',F e s'/\∀ (k:Ex->aA->Option RV) (r:RV),k e s'=some r->c.run (dF T ext) (RJ T ext) s k=some r:=by
 classical
 obtain ⟨m,hm⟩:=(xS c s (fun e s'=>if F e s' then some (default:RV) else none) default (fun _ e s'=>if F e s' then some (default:RV) else none) (fun e s' r' h'=>BB.now h') (h _ _ fun e s' hF=>if_pos hF)).some;obtain ⟨d1,d2⟩:=det_N (T:=T) (ext:=ext) hD m;rcases NN (call:=uE T ext m) (lh:=⟨BK T ext m,kM T ext m⟩) d1 d2 c hc s with hd | ⟨e,s',hd⟩
 ·rw [hd] at hm;cases hm
 ·rw [hd] at hm;have hF:F e s':=by
   by_cases hF:F e s'
   ·exact hF
   ·rw [if_neg hF] at hm;cases hm
  refine ⟨e,s',hF,fun k r hk=>?_⟩;have hN:c.run (uE T ext m) ⟨BK T ext m,kM T ext m⟩ s k=some r:=(hd k).trans hk;exact Exists.elim (XD (lpA:=⟨BK T ext m,kM T ext m⟩) (callB:=fun _=>dF T ext) (lpB:=fun _=>RJ T ext) (fun f args S r' h'=>BB.now (eM.2 ⟨m,h'⟩)) (fun f xs s1 k1 r1 km od h1=>((HL m).2.2 f xs s1 k1 r1 km od h1).imp fun m' tc=>wX.2 ⟨m',tc⟩) (fun b s1 k1 r1 km od h1=>((HL m).2.1 b s1 k1 r1 km od h1).imp fun m' tc=>rX.2 ⟨m',tc⟩) c s k r (fun _=>k) (fun e s' r' h'=>BB.now h') hN).some fun _ h'=>h'
theorem JT {f:Nat} {args:List AV} {S0:Option AV} (hD:∀ f c,T f=some c->c.code.det=true) (c:MA) (hT:T f=some c) (hl:args.length=c.np) {F:Ex->aA->Prop} {P:RV->Prop} (h:∀ (k:Ex->aA->Option RV) (r:RV),(∀ e s',F e s'->k e s'=some r)->c.code.run (dF T ext) (RJ T ext) (aA.init args S0) k=some r) (hF:∀ e s',F e s'->∃ r,fin c S0 e s'=some r/\P r) (hm:gJ args=false:=by rfl) (hS:noItO S0=true:=by rfl):∃ r,P r/\dF T ext f args S0=some r:=by
 obtain ⟨e,s',h1,h2⟩:=d3 hD (hD f c hT) h;obtain ⟨r,h3,h4⟩:=hF e s' h1;exact ⟨r,h4,gQ c hT hl (h2 _ _ h3) hm hS⟩
end
end
noncomputable def allL:List (Nat × MA):=[(5,OB),(24,HE),(25,LQ),(26,aS),(27,CC),(28,kK),(29,iF),(31,QN),(34,SF),(10,PF),(12,zP),(14,xN),(16,zN),(17,WO),(19,XQ),(20,sG),(23,gK),(50,lF),(52,gE),(53,zV),(54,uS),(55,CQ),(56,pL),(57,xL),(58,xK),(59,CA),(61,kG),(62,AA),(63,AD),(64,rG),(68,aE),(37,OO),(38,pS),(41,dG),(42,sH),(44,RO),(45,TO),(48,UO),(49,EO),(51,MB),(81,kL),(82,dK),(83,LM),(84,jL),(85,JM),(86,fK),(87,KM),(89,NL),(90,ML),(91,XM),(92,SJ),(93,CM),(94,BM),(95,zK),(96,jK),(97,uI),(98,NI),(99,zD),(100,GE),(101,qM),(102,bL),(103,ZD),(104,pD),(105,JE),(106,eG),(107,kC),(108,wE),(109,iI),(111,PO),(112,pF),(72,AH),(74,qH),(75,FF),(76,WA),(78,OM),(79,cN),(88,PE),(126,DE),(127,CB),(118,eI),(128,sS),(129,NA),(130,mA),(131,BI),(132,SA),(133,GG),(134,pI),(135,aF),(136,qD),(137,NE),(138,LC),(139,qG),(148,SM),(149,DM),(150,MH),(116,EA),(117,lL),(119,bA),(120,cK),(121,bK),(122,PM),(123,bN),(172,MI),(173,lK),(174,NG),(175,uA),(176,FW),(177,zL),(178,ZM),(179,GM),(180,HM),(181,cL),(182,DH),(183,ZC),(184,wG),(185,wI),(186,HA),(187,bD),(188,gC),(156,xB),(157,SH),(158,OE),(159,tI),(160,rI),(161,IE),(162,kH),(163,jH),(164,NB),(165,zA),(166,KQ),(167,AM),(214,fH),(215,QF),(216,AJ),(217,UK),(218,sF),(195,pC),(196,CI),(197,sK),(198,XN),(199,dH),(200,qI),(201,nL),(202,uJ),(203,FC),(204,eC),(205,zC),(206,NC),(207,UC),(208,fS),(209,mL),(210,PC),(211,jN),(212,mI),(213,QO),(235,tG),(236,PJ),(237,nN),(238,iL),(239,uL),(240,FM),(220,bB),(221,QC),(222,aI),(223,tE),(224,lG),(225,fL),(226,gD),(227,kN),(228,dS),(229,gS),(230,ZI),(231,OJ),(233,lP),(250,FH),(251,iJ),(252,jP),(248,jS),(253,AO),(241,aD),(242,BF),(243,CF),(244,lN),(245,kP),(246,DF),(247,RH),(254,mE),(256,nD)]
noncomputable def jA (f:Nat):Option MA:=allL.lookup f
def okL:List (Nat × MA)->Prop
 | []=>True
 | x::r=>cA Tryz.prog x.1 x.2/\okL r
theorem okL_of:∀ {l:List (Nat × MA)},okL l->∀ {f:Nat} {c:MA},l.lookup f=some c->cA Tryz.prog f c
 | [],_,_,_,h=>by cases h
 | (g,d)::r,hl,f,c,h=>by
  rw [List.lookup_cons] at h;cases e:f==g with
  | true=>rw [e] at h;cases h;cases of_decide_eq_true e;exact hl.1
  | false=>rw [e] at h;exact okL_of hl.2 h
theorem allT_ok (f:Nat) (c:MA) (h:jA f=some c):cA Tryz.prog f c:=okL_of (l:=allL) ⟨jJ,K7,KX,WZ,fO,qY,PU,sT,aT,ZS,NV,CS,XS,dU,tY,fU,NX,F7,WU,O4,cZ,pY,HP,RZ,uY,OZ,FU,AR,gO,DQ,iN,cU,bZ,zU,NS,kU,lU,xU,gU,TR,mZ,ZX,F4,nZ,S4,CX,D4,UQ,IQ,UR,dO,IR,K4,rY,MX,AU,tW,iY,pW,J7,PZ,dT,GU,AQ,SQ,cM,nM,SU,nU,cR,XX,aW,fT,jU,bR,BS,RQ,iW,RU,EU,TZ,IU,J4,rW,OU,OR,DU,ER,fY,hO,eK,OQ,QR,WR,aU,G4,QZ,aY,dY,gY,nR,MS,uW,wY,qW,UZ,H7,EZ,H4,P4,A4,IZ,eY,rK,PQ,mU,GP,PN,JK,uT,BX,wW,UU,TU,MV,pT,oT,dW,GZ,JX,mR,rT,SP,sO,wP,qP,TQ,eW,LX,G7,qT,bU,AZ,sW,aM,wK,PR,sY,fW,HZ,FZ,JU,JS,uN,sU,FQ,aO,wT,DP,AP,RR,DZ,kJ,KU,MO,LU,xZ,NO,KS,SZ,JZ,IN,pO,BV,bM,ON,XV,KZ,QU,KK,EQ,WQ,LS,CV,TJ,pM,cH,JF,trivial⟩ h
theorem detL:∀ {l:List (Nat × MA)},(l.all fun p=>p.2.code.det)=true->∀ {f:Nat} {c:MA},l.lookup f=some c->c.code.det=true
 | [],_,_,_,h=>by cases h
 | (g,d)::r,hl,f,c,h=>by
  rw [List.all_cons,y7] at hl;rw [List.lookup_cons] at h;cases e:f==g with
  | true=>rw [e] at h;cases h;exact hl.1
  | false=>rw [e] at h;exact detL hl.2 h
theorem SW (f:Nat) (c:MA) (h:jA f=some c):c.code.det=true:=detL (l:=allL) (by kernel_rfl) h
section
mutual
def AV.beq:AV->AV->Bool
 | .int k n,.int k' n'=>decide (k=k')&&decide (n=n')
 | .bool a,.bool b=>a == b
 | .str a,.str b=>decide (a=b)
 | .nilP,.nilP=>true
 | .ptr t n o,.ptr t' n' o'=>Nat.beq t t'&&Nat.beq n n'&&Nat.beq o o'
 | .ip l,.ip m=>AV.beqL l m
 | .bp l,.bp m=>AV.beqL l m
 | .sl b l,.sl b' m=>(b == b')&&AV.beqLL l m
 | .bl l,.bl m=>AV.beqLL l m
 | .fn f l,.fn g m=>Nat.beq f g&&AV.beqL l m
 | .agg l,.agg m=>AV.beqL l m
 | .tup l,.tup m=>AV.beqL l m
 | .undef,.undef=>true
 | _,_=>false
def AV.beqL:List AV->List AV->Bool
 | [],[]=>true
 | x :: l,y :: m=>AV.beq x y&&AV.beqL l m
 | _,_=>false
def AV.beqLL:List (List AV)->List (List AV)->Bool
 | [],[]=>true
 | x :: l,y :: m=>AV.beqL x y&&AV.beqLL l m
 | _,_=>false
end
mutual
theorem AV.beq_eq:∀ (x y:AV),AV.beq x y=true->x=y
 | .int k n,y,h=>by cases y <;> simp [AV.beq] at h <;> simp [h]
 | .bool a,y,h=>by cases y <;> simp [AV.beq] at h <;> simp [h]
 | .str a,y,h=>by cases y <;> simp [AV.beq] at h <;> simp [h]
 | .nilP,y,h=>by cases y <;> simp [AV.beq] at h <;> rfl
 | .ptr t n o,y,h=>by cases y <;> simp [AV.beq] at h <;> simp [h]
 | .ip l,y,h=>by cases y <;> simp only [AV.beq] at h <;> first | cases h | rw [AV.beqL_eq l _ h]
 | .bp l,y,h=>by cases y <;> simp only [AV.beq] at h <;> first | cases h | rw [AV.beqL_eq l _ h]
 | .sl b l,y,h=>by
  cases y <;> simp only [AV.beq] at h <;> first | cases h | skip
  rw [y7] at h
  rw [AV.beqLL_eq l _ h.2,show b=_ from by simpa using h.1]
 | .bl l,y,h=>by cases y <;> simp only [AV.beq] at h <;> first | cases h | rw [AV.beqLL_eq l _ h]
 | .ref ..,y,h=>by cases y <;> simp [AV.beq] at h
 | .mp ..,y,h=>by cases y <;> simp [AV.beq] at h
 | .fn f l,y,h=>by
  cases y <;> simp only [AV.beq] at h <;> first | cases h | skip
  rw [y7] at h
  rw [AV.beqL_eq l _ h.2,show f=_ from by simpa using h.1]
 | .agg l,y,h=>by cases y <;> simp only [AV.beq] at h <;> first | cases h | rw [AV.beqL_eq l _ h]
 | .tup l,y,h=>by cases y <;> simp only [AV.beq] at h <;> first | cases h | rw [AV.beqL_eq l _ h]
 | .undef,y,h=>by cases y <;> simp [AV.beq] at h <;> rfl
theorem AV.beqL_eq:∀ (x y:List AV),AV.beqL x y=true->x=y
 | [],[],_=>rfl
 | [],_ :: _,h=>by simp [AV.beqL] at h
 | _ :: _,[],h=>by simp [AV.beqL] at h
 | x :: l,y :: m,h=>by
  simp only [AV.beqL,y7] at h
  rw [AV.beq_eq x y h.1,AV.beqL_eq l m h.2]
theorem AV.beqLL_eq:∀ (x y:List (List AV)),AV.beqLL x y=true->x=y
 | [],[],_=>rfl
 | [],_ :: _,h=>by simp [AV.beqLL] at h
 | _ :: _,[],h=>by simp [AV.beqLL] at h
 | x :: l,y :: m,h=>by
  simp only [AV.beqLL,y7] at h
  rw [AV.beqL_eq x y h.1,AV.beqLL_eq l m h.2]
end
def AV.beqO:Option AV->Option AV->Bool
 | none,none=>true
 | some x,some y=>AV.beq x y
 | _,_=>false
theorem AV.beqO_eq:∀ (x y:Option AV),AV.beqO x y=true->x=y
 | none,none,_=>rfl
 | none,some _,h=>by cases h
 | some _,none,h=>by cases h
 | some x,some y,h=>by rw [AV.beq_eq x y h]
structure ME where
 f:Nat
 args:List AV
 S:Option AV
 r:RV
def look:List ME->JB
 | [],_,_,_=>none
 | e :: l,f,args,S=>if Nat.beq e.f f&&(AV.beqL e.args args&&AV.beqO e.S S) then some e.r else look l f args S
mutual
noncomputable def kS (M:List ME) (T:Nat->Option MA) (ext:JB):Nat->JB
 | 0,f,args,S0=>match T f with
  | none=>ext f args S0
  | some _=>none
 | n + 1,f,args,S0=>match look M f args S0 with
  | some r=>some r
  | none=>match T f with
   | none=>ext f args S0
   | some c=>match qR args,S0 with
    | some rest,some (.agg cs)=>if rest.length=c.np/\gJ rest=false then c.code.run (kS M T ext n) ⟨lpM M T ext n,hpM M T ext n⟩ (aA.initR rest cs) (iG c cs.length) else none
    | some _,_=>none
    | none,_=>if args.length=c.np/\gJ args=false/\noItO S0=true then c.code.run (kS M T ext n) ⟨lpM M T ext n,hpM M T ext n⟩ (aA.init args S0) (fin c S0) else none
noncomputable def lpM (M:List ME) (T:Nat->Option MA) (ext:JB):Nat->LpT
 | 0,_,_,_=>none
 | n + 1,b,s,k=>b.run (kS M T ext n) ⟨lpM M T ext n,hpM M T ext n⟩ s (tL (lpM M T ext n) b k)
noncomputable def hpM (M:List ME) (T:Nat->Option MA) (ext:JB):Nat->HpT
 | 0,_,_,_,_=>none
 | n + 1,f,args,s,k=>match T f with
  | none=>none
  | some c=>if args.length=c.np then c.code.run (kS M T ext n) ⟨lpM M T ext n,hpM M T ext n⟩ (s.initH args) (mP c k) else none
end
variable {T:Nat->Option MA} {ext:JB} {M:List ME}
def IA (T:Nat->Option MA) (ext:JB) (M:List ME):Prop:=∀ f args S r,look M f args S=some r->dF T ext f args S=some r
theorem M_late (hM:IA T ext M):∀ N,(∀ f args S r,kS M T ext N f args S=some r->BB fun m=>uE T ext m f args S=some r) ∧
  (∀ b s k r (km:Nat->Ex->aA->Option RV),(∀ e s' r',k e s'=some r'->BB fun m=>km m e s'=some r')->lpM M T ext N b s k=some r->BB fun m=>BK T ext m b s (km m)=some r) ∧
  uV (hpM M T ext N) (kM T ext)
 | 0=>by
  refine ⟨fun f args S r h=>⟨0,fun m _=>?_⟩,fun b s k r km _ h=>(by cases h),fun f xs s k r km _ h=>(by cases h)⟩;unfold kS at h;cases hT:T f with
  | none=>rw [hT] at h; cases m <;> (unfold uE; rw [hT]; exact h)
  | some c=>rw [hT] at h; cases h
 | N + 1=>by
  obtain ⟨kq,eo,lq⟩:=M_late hM N;refine ⟨?_,?_,?_⟩
  ·intro f args S0 r h;unfold kS at h;cases hl:look M f args S0 with
   | some r' =>
    rw [hl] at h;injection h with h;subst h;exact J6 f args S0 _ (hM f args S0 _ hl)
   | none =>
   rw [hl] at h;simp only at h;cases hT:T f with
   | none=>rw [hT] at h; exact ⟨0,fun m _=>by cases m <;> (unfold uE; rw [hT]; exact h)⟩
   | some c =>
    rw [hT] at h;cases hm:qR args with
    | some rest =>
     cases S0 with
     | none=>rw [hm] at h; cases h
     | some S =>
      cases S with
      | agg cs =>
       rw [hm] at h;simp only at h;split at h
       ·rename_i hl;refine BB.pred ((XD (lpA:=⟨lpM M T ext N,hpM M T ext N⟩) (lpB:=fun m=>⟨BK T ext m,kM T ext m⟩) kq lq eo c.code _ _ r (fun _=>iG c cs.length) (fun e s' r' h'=>BB.now h') h).imp fun m tc=>?_);unfold uE;rw [hT];simp only [hm];rw [if_pos hl];exact tc
       ·cases h
      | _=>rw [hm] at h; cases h
    | none =>
     rw [hm] at h;simp only at h;split at h
     ·rename_i hl;refine BB.pred ((XD (lpA:=⟨lpM M T ext N,hpM M T ext N⟩) (lpB:=fun m=>⟨BK T ext m,kM T ext m⟩) kq lq eo c.code _ _ r (fun _=>fin c S0) (fun e s' r' h'=>BB.now h') h).imp fun m tc=>?_);unfold uE;rw [hT];simp only [hm];rw [if_pos hl];exact tc
     ·cases h
  ·intro b s k r km hk h;unfold lpM at h;refine BB.pred ((XD (lpA:=⟨lpM M T ext N,hpM M T ext N⟩) (lpB:=fun m=>⟨BK T ext m,kM T ext m⟩) kq lq eo b s _ r (fun m=>tL (BK T ext m) b (km (m + 1))) (fun e s' r' h'=>?_) h).imp fun m hm=>?_)
   ·cases e with
    | nrm=>exact eo b s' k r' (fun m=>km (m + 1)) (fun e s'' r'' h''=>(hk e s'' r'' h'').succ) h'
    | exit id=>exact (hk _ _ _ h').succ
    | ret=>exact (hk _ _ _ h').succ
   ·unfold BK;exact hm
  ·intro f xs s k r km hk h;unfold hpM at h;cases hT:T f with
   | none=>rw [hT] at h; cases h
   | some c =>
    rw [hT] at h;simp only at h;split at h
    ·rename_i hl;refine BB.pred ((XD (lpA:=⟨lpM M T ext N,hpM M T ext N⟩) (lpB:=fun m=>⟨BK T ext m,kM T ext m⟩) kq lq eo c.code _ _ r (fun m=>mP c (km (m + 1))) (fun e s' r' h'=>?_) h).imp fun m hm=>?_)
     ·cases e with
      | exit id=>cases h'
      | nrm =>
       simp only [mP] at h' ⊢;obtain ⟨y,hy,h'⟩:=ye.1 h';simp only [hy,J];exact (hk _ _ _ h').succ
      | ret =>
       simp only [mP] at h' ⊢;obtain ⟨y,hy,h'⟩:=ye.1 h';simp only [hy,J];exact (hk _ _ _ h').succ
     ·unfold kM;rw [hT];simp only;rw [if_pos hl];exact hm
    ·cases h
theorem IA.nil:IA T ext []:=fun f args S r h=>by cases h
theorem IA.run (hM:IA T ext M) {f:Nat} {args:List AV} {S:Option AV} {r:RV} (N:Nat) (h:kS M T ext N f args S=some r):dF T ext f args S=some r:=by
 obtain ⟨m,hm⟩:=((M_late hM N).1 f args S r h).some;exact eM.2 ⟨m,hm⟩
theorem IA.cons (hM:IA T ext M) {e:ME} (h:dF T ext e.f e.args e.S=some e.r):IA T ext (e :: M):=fun f args S r hl=>by
 unfold look at hl;split at hl
 ·rename_i hc;simp only [y7] at hc;obtain ⟨h1,h2,h3⟩:=hc;injection hl with hl;have h1:e.f=f:=by simpa using h1
  rw [<- h1,<- AV.beqL_eq _ _ h2,<- AV.beqO_eq _ _ h3,<- hl];exact h
 ·exact hM f args S r hl
theorem IA.more (hM:IA T ext M) (N:Nat) (e:ME) (h:kS M T ext N e.f e.args e.S=some e.r):IA T ext (e :: M):=hM.cons (hM.run N h)
end
section
def putE (e:Nat->wA) (d:Nat) (x:wA):Nat->wA:=fun t=>if t=d then x else e t
theorem nH (e:Nat->wA) (d:Nat) (x:wA) (t:Nat):putE e d x t=if t=d then x else e t:=(rfl)
def XY (m:Nat->Nat->Option (List wA)) (t n:Nat) (r:List wA):Nat->Nat->Option (List wA):=fun t' n'=>if t'=t/\n'=n then some r else m t' n'
theorem uB (m:Nat->Nat->Option (List wA)) (t n:Nat) (r:List wA) (t' n':Nat):XY m t n r t' n'=if t'=t/\n'=n then some r else m t' n':=(rfl)
def setO (m:Nat->Nat->Option AV) (t n:Nat) (r:AV):Nat->Nat->Option AV:=fun t' n'=>if t'=t/\n'=n then some r else m t' n'
theorem setO_at (m:Nat->Nat->Option AV) (t n:Nat) (r:AV) (t' n':Nat):setO m t n r t' n'=if t'=t/\n'=n then some r else m t' n':=(rfl)
def NY (k:Nat) (e:Nat->wA):Nat->wA:=fun t=>(e t).strip k
theorem T3 (k:Nat) (e:Nat->wA) (t:Nat):NY k e t=(e t).strip k:=(rfl)
def wV (k:Nat) (m:Nat->Nat->Option (List wA)):Nat->Nat->Option (List wA):=fun t n=>(m t n).map (·.map (wA.strip k))
theorem U3 (k:Nat) (m:Nat->Nat->Option (List wA)) (t n:Nat):wV k m t n=(m t n).map (·.map (wA.strip k)):=(rfl)
theorem wA.strip_v (k:Nat) (x:wA):(x.strip k).v=x.v:=(rfl)
theorem wA.strip_a (k:Nat) (x:wA):(x.strip k).a=x.a.strip k:=(rfl)
theorem wA.strip_mk (k:Nat) (v:AV) (a:An):wA.strip k ⟨v,a⟩=⟨v,a.strip k⟩:=(rfl)
def argE (args:List AV):Nat->wA:=fun t=>⟨args.getD t .undef,.no⟩
theorem argE_at (args:List AV) (t:Nat):argE args t=⟨args.getD t .undef,.no⟩:=(rfl)
def noM:Nat->Nat->Option (List wA):=fun _ _=>none
theorem noM_at (t n:Nat):noM t n=none:=(rfl)
def objE (S0:Option AV):Nat->Nat->Option AV:=fun t n=>if t=0/\n=0 then S0 else none
theorem objE_at (S0:Option AV) (t n:Nat):objE S0 t n=if t=0/\n=0 then S0 else none:=(rfl)
def undE:Nat->wA:=fun _=>⟨.undef,.no⟩
theorem undE_at (t:Nat):undE t=⟨.undef,.no⟩:=(rfl)
theorem x9 {α β:Type} (a:α) (f:α->Option β):(some a).bind f=f a:=(rfl)
theorem Q5 {α β:Type} (f:α->β) (l:List α):(l.map f).take l.length=l.map f:=yB (by simp)
theorem m_init (args:List AV) (S0:Option AV):aA.init args S0=⟨argE args,noM,1,objE S0,undE⟩:=(rfl)
theorem m_put (s:aA) (d:Nat) (x:wA):s.put (some d) x=⟨putE s.env d x,s.mem,s.next,s.obj,s.gh⟩:=(rfl)
theorem m_put0 (s:aA) (x:wA):s.put none x=s:=(rfl)
theorem m_row (s:aA) (t n:Nat) (r:List wA):s.setRow t n r=⟨s.env,XY s.mem t n r,s.next,s.obj,s.gh⟩:=(rfl)
theorem m_obj (s:aA) (t n:Nat) (r:AV):s.setObj t n r=⟨s.env,s.mem,s.next,setO s.obj t n r,s.gh⟩:=(rfl)
theorem m_strip (s:aA) (k:Nat):s.strip k=⟨NY k s.env,wV k s.mem,s.next,s.obj,NY k s.gh⟩:=(rfl)
theorem m_stripA (s:aA) (k:Nat) (e:TypeId):s.stripA (.own k e)=s.strip k:=(rfl)
theorem m_stripX (s:aA):s.stripA .ex=s:=(rfl)
def QX (t n:Nat) (e:Nat->wA):Nat->wA:=fun j=>(e j).kill t n
theorem pB (t n:Nat) (e:Nat->wA) (j:Nat):QX t n e j=(e j).kill t n:=(rfl)
def C1 (t n:Nat) (m:Nat->Nat->Option (List wA)):Nat->Nat->Option (List wA):=fun t' n'=>if t'=t/\n'=n then none else (m t' n').map (·.map (wA.kill t n))
theorem nB (t n:Nat) (m:Nat->Nat->Option (List wA)) (t' n':Nat):C1 t n m t' n'=if t'=t/\n'=n then none else (m t' n').map (·.map (wA.kill t n)):=(rfl)
theorem wA.kill_v (t n:Nat) (x:wA):(x.kill t n).v=x.v.kill t n:=(rfl)
theorem wA.kill_a (t n:Nat) (x:wA):(x.kill t n).a=x.a:=(rfl)
theorem wA.kill_mk (t n:Nat) (v:AV) (a:An):wA.kill t n ⟨v,a⟩=⟨v.kill t n,a⟩:=(rfl)
theorem m_kill (s:aA) (t n:Nat):s.killO (some (t,n))=⟨QX t n s.env,C1 t n s.mem,s.next,s.obj,QX t n s.gh⟩:=(rfl)
def rowE (cs:List AV):Nat->Nat->Option (List wA):=fun t n=>if t=0/\n=0 then some (cs.map fun v=>⟨v,rB v⟩) else none
theorem rowE_at (cs:List AV) (t n:Nat):rowE cs t n=if t=0/\n=0 then some (cs.map fun v=>⟨v,rB v⟩) else none:=(rfl)
theorem m_initR (args cs:List AV):aA.initR args cs=⟨argE args,rowE cs,1,objE none,undE⟩:=by
 have:objE none=fun _ _=>none:=by funext t n; simp [objE]
 rw [this];rfl
def drop0M (m:Nat->Nat->Option (List wA)):Nat->Nat->Option (List wA):=fun t n=>if t=0/\n=0 then none else m t n
theorem drop0M_at (m:Nat->Nat->Option (List wA)) (t n:Nat):drop0M m t n=if t=0/\n=0 then none else m t n:=(rfl)
theorem m_drop0 (s:aA):s.drop0=⟨s.env,drop0M s.mem,s.next,s.obj,s.gh⟩:=(rfl)
def slotE (xs:List wA):Nat->wA:=fun t=>xs.getD t ⟨.undef,.no⟩
theorem slotE_at (xs:List wA) (t:Nat):slotE xs t=xs.getD t ⟨.undef,.no⟩:=(rfl)
def aZ (nt:Nat) (e g:Nat->wA):Nat->wA:=fun t=>if t<nt then e t else g (t - nt)
theorem QE (nt:Nat) (e g:Nat->wA) (t:Nat):aZ nt e g t=if t<nt then e t else g (t - nt):=(rfl)
def backE (nt:Nat) (g:Nat->wA):Nat->wA:=fun t=>if t<nt then g t else ⟨.undef,.no⟩
theorem fN (nt:Nat) (g:Nat->wA) (t:Nat):backE nt g t=if t<nt then g t else ⟨.undef,.no⟩:=(rfl)
def FV (nt:Nat) (g:Nat->wA):Nat->wA:=fun t=>g (t + nt)
theorem j8 (nt:Nat) (g:Nat->wA) (t:Nat):FV nt g t=g (t + nt):=(rfl)
theorem m_initH (s:aA) (xs:List wA):s.initH xs=⟨slotE xs,s.mem,s.next,s.obj,s.gh⟩:=(rfl)
theorem m_enter (s:aA) (nt:Nat):s.enter nt=⟨s.env,s.mem,s.next + 1,s.obj,aZ nt s.env s.gh⟩:=(rfl)
theorem m_leave (s:aA) (nt:Nat):s.leave nt=⟨backE nt s.gh,s.mem,s.next,s.obj,FV nt s.gh⟩:=(rfl)
theorem m_kill0 (s:aA):s.killO none=s:=(rfl)
theorem mX {v:AV} (h:v.free0=true) (t n:Nat):v.kill0 t n=v:=by
 cases v <;> first | rfl | (simp [AV.free0] at h; done)
theorem u7 {cs:List AV} (h:cs.all AV.free0=true) (t n:Nat):cs.map (AV.kill0 t n)=cs:=by
 have h1:cs.map (AV.kill0 t n)=cs.map id:=yw fun x hx=>mX (y6.1 h x hx) t n
 rwa [List.map_id] at h1
theorem B1 {v:AV} (h:v.free=true) (t n:Nat):v.kill t n=v:=by
 cases v with
 | agg cs=>exact congrArg AV.agg (u7 h t n)
 | _=>first | rfl | (simp [AV.free,AV.free0] at h; done)
theorem frz0_free {s:aA} {v:AV} (h:v.free0=true):v.frz0 s=v:=by
 cases v <;> first | rfl | (simp [AV.free0] at h; done)
theorem frz_map {s:aA} {cs:List AV} (h:cs.all AV.free0=true):cs.map (AV.frz0 s)=cs:=by
 have h1:cs.map (AV.frz0 s)=cs.map id:=yw fun x hx=>frz0_free (y6.1 h x hx)
 rwa [List.map_id] at h1
theorem frz_free {s:aA} {v:AV} (h:v.free=true):v.frz s=v:=by
 cases v with
 | agg cs=>exact congrArg AV.agg (frz_map h)
 | _=>first | rfl | (simp [AV.free,AV.free0] at h; done)
section
variable {sz:Nat} {l:List (List AV)}
theorem cJ (l m:List (List AV)):kA (l++m)=kA l++kA m:=by simp [kA]
theorem QH (h:iB sz l=true):(kA l).length=l.length * sz:=by
 induction l with
 | nil=>simp [kA]
 | cons c r ih =>
  rw [XW] at h;simp only [y7,decide_eq_true_eq] at h;have:=ih h.2;simp only [kA,yI,yH,yz,yu,yF] at this ⊢;rw [this,h.1,yy];omega
theorem CP (h:iB sz l=true) {k:Nat} (hk:k<=l.length):kA l=kA (l.take k)++kA (l.drop k)/\(kA (l.take k)).length=k * sz:=by
 refine ⟨by rw [<- cJ,List.take_append_drop],?_⟩;rw [QH (CW h k),yL,Nat.min_eq_left hk]
theorem DY (h:iB sz l=true) {k:Nat} (hk:k<=l.length):(kA l).take (k * sz)=kA (l.take k):=by
 obtain ⟨h1,h2⟩:=CP h hk;rw [h1,<- h2,List.take_left]
theorem lO (h:iB sz l=true) {k:Nat} (hk:k<=l.length):(kA l).drop (k * sz)=kA (l.drop k):=by
 obtain ⟨h1,h2⟩:=CP h hk;rw [h1,<- h2,List.drop_left]
theorem fM (c:List AV) (r:List (List AV)):kA (c :: r)=c.map (⟨·,.no⟩)++kA r:=by simp [kA]
theorem T1 (h:iB sz l=true) {k:Nat} {c:List AV} (hk:l[k]?=some c):c.length=sz:=by
 simp only [iB,y6] at h;simpa using h c (yh hk)
theorem AY (h:iB sz l=true) {k:Nat} {c:List AV} (hk:l[k]?=some c):RB true sz (k * sz) (kA l)=some ⟨.agg c,.no⟩:=by
 have fa:=(y9.1 hk).1;have hc:=T1 h hk;have hd:l.drop k=c :: l.drop (k + 1):=by rw [yb fa,(y9.1 hk).2]
 simp only [RB,if_true,QH h];rw [if_pos (by rw [<- yy]; exact yZ _ fa),lO h (by omega),hd,fM,<- hc,List.take_left' (by simp)];simp [Function.comp_def]
theorem x8 (h:iB 1 l=true) {k:Nat} {x:AV} (hk:l[k]?=some [x]):(kA l)[k]?=some ⟨x,.no⟩:=by
 have fa:=(y9.1 hk).1;obtain ⟨h1,h2⟩:=CP h (k:=k) (by omega);have hd:l.drop k=[x] :: l.drop (k + 1):=by rw [yb fa,(y9.1 hk).2]
 rw [h1,yQ (by omega),h2,hd,fM];simp
theorem Q8 (h:iB 1 l=true) {k:Nat} {x:AV} (hk:l[k]?=some [x]) (sz:Nat):RB false sz k (kA l)=some ⟨x,.no⟩:=by
 simp only [RB,yA,if_false];exact x8 h hk
theorem GV (h:iB sz l=true) {k:Nat} (hk:k<l.length) {c:List AV} (hc:c.length=sz) (a:An):UA true sz (k * sz) (kA l) (.agg c) a=some (kA (l.set k c)):=by
 simp only [UA,if_true,QH h];rw [if_pos ⟨hc,by rw [<- yy]; exact yZ _ hk⟩,DY h (by omega),<- yy,lO h hk,List.set_eq_take_append_cons_drop,if_pos hk,cJ,fM,List.append_assoc]
theorem M4 (h:iB 1 l=true) {k:Nat} (hk:k<l.length) {x:AV} (hx:x.leaf=true) (sz:Nat):UA false sz k (kA l) x .no=some (kA (l.set k [x])):=by
 have ia:=QH h;simp only [UA,yA,if_false];rw [if_pos ⟨hx,by omega⟩];congr 1;have e1:=DY h (k:=k) (by omega);have e2:=lO h (k:=k + 1) (by omega);simp only [Nat.mul_one] at e1 e2;rw [List.set_eq_take_append_cons_drop,if_pos (by omega),e1,e2,List.set_eq_take_append_cons_drop,if_pos hk,cJ,fM];simp
theorem qC (z off:Nat) (r:List wA):RB false z off r=r[off]?:=by simp [RB]
theorem jC (z off:Nat) (x:wA) (r:List wA):RB true z off (x :: r)=if off + z<=(x :: r).length then some ⟨.agg ((((x :: r).drop off).take z).map (·.v)),.no⟩ else none:=by simp [RB]
theorem fB (z off:Nat) (y:wA) (r:List wA) (x:AV) (a:An):UA false z off (y :: r) x a=if x.leaf/\off<(y :: r).length then some ((y :: r).set off ⟨x,a⟩) else none:=by simp [UA]
theorem gB (z off:Nat) (y:wA) (r:List wA) (cs:List AV) (a:An):UA true z off (y :: r) (.agg cs) a=if cs.length=z/\off + z<=(y :: r).length then some ((y :: r).take off++cs.map (⟨·,.no⟩)++(y :: r).drop (off + z)) else none:=by simp [UA]
def UD (l:List (List AV)):Bool:=l.all fun c=>c.all AV.free0
theorem DK {α:Type} (f:α->List AV) (l:List α) (h:∀ x,(f x).all AV.free0=true):UD (l.map f)=true:=by
 simp only [UD,List.all_map,y6];exact fun x _=>h x
theorem mH (h:iB sz l=true) (hf:UD l=true):zE (kA l) sz 0 l.length=some l:=by
 unfold zE;rw [if_pos]
 ·congr 1;refine List.ext_getElem (by simp) fun i h1 h2=>?_
  simp only [List.getElem_map,List.getElem_range,yK];rw [lO h (by omega),yb h2,fM];have hc:=T1 h (y5 h2);rw [<- hc,List.take_left' (by simp)];simp [Function.comp_def]
 ·refine ⟨by rw [QH h]; omega,?_⟩;simp only [kA,List.all_map,List.all_flatten,Function.comp_def];exact hf
end
section
variable {call:JB} {lp:LH} {T:Nat->Option MA} {ext:JB}
noncomputable def seqK (call:JB) (lp:LH) (b:C) (k:Ex->aA->Option RV):Ex->aA->Option RV:=fun e s=>match e with
 | .nrm=>b.run call lp s k
 | e=>k e s
def regK (k:Ex->aA->Option RV):aA->Option RV:=fun s=>k .nrm { s with next:=s.next + 1 }
noncomputable def opK (call:JB) (lp:LH) (r:List TA) (k:aA->Option RV):aA->Option RV:=fun s=>OG call lp r s k
def callK (d:Option Nat) (nt:Nat) (k:aA->Option RV):wA->aA->Option RV:=fun y s'=>k ((s'.leave nt).put d y)
def blkK (id:Nat) (k:Ex->aA->Option RV):Ex->aA->Option RV:=fun e s=>match e with
 | .exit j=>if j=id then k .nrm s else k (.exit j) s
 | e=>k e s
def P6 (v:AV) (a b:Option RV):Option RV:=match v with
 | .bool t=>if t then a else b
 | _=>none
def ZT (v:AV) (w:Bool) (a b:Option aA):Option aA:=match v with
 | .bool t=>if t=w then a else b
 | .tup []=>b
 | _=>none
def XT (v:AV) (w:Bool) (a b:Option RV):Option RV:=match v with
 | .bool t=>if t=w then a else b
 | .tup []=>b
 | _=>none
def fnC (v:AV) (h:Nat->List AV->Option RV):Option RV:=match v with
 | .fn f cs=>h f cs
 | _=>none
variable (b c:C) (s:aA) (k:Ex->aA->Option RV) (j id:Nat)
theorem seqK_nrm:seqK call lp b k .nrm s=b.run call lp s k:=(rfl)
theorem seqK_exit:seqK call lp b k (.exit j) s=k (.exit j) s:=(rfl)
theorem seqK_ret:seqK call lp b k .ret s=k .ret s:=(rfl)
theorem regK_at:regK k s=k .nrm ⟨s.env,s.mem,s.next + 1,s.obj,s.gh⟩:=(rfl)
theorem opK_at (r:List TA) (k:aA->Option RV):opK call lp r k s=OG call lp r s k:=(rfl)
theorem callK_at (d:Option Nat) (nt:Nat) (k:aA->Option RV) (y:wA):callK d nt k y s=k ((s.leave nt).put d y):=(rfl)
theorem blkK_nrm:blkK id k .nrm s=k .nrm s:=(rfl)
theorem blkK_exit:blkK id k (.exit j) s=if j=id then k .nrm s else k (.exit j) s:=(rfl)
theorem blkK_ret:blkK id k .ret s=k .ret s:=(rfl)
theorem U9 (x y:Option RV):P6 (.bool true) x y=x:=(rfl)
theorem A6 (x y:Option RV):P6 (.bool false) x y=y:=(rfl)
theorem N6 (t w:Bool) (x y:Option aA):ZT (.bool t) w x y=if t=w then x else y:=(rfl)
theorem H9 (w:Bool) (x y:Option aA):ZT (.tup []) w x y=y:=(rfl)
theorem M6 (t w:Bool) (x y:Option RV):XT (.bool t) w x y=if t=w then x else y:=(rfl)
theorem J9 (w:Bool) (x y:Option RV):XT (.tup []) w x y=y:=(rfl)
theorem fnC_fn (f:Nat) (cs:List AV) (h:Nat->List AV->Option RV):fnC (.fn f cs) h=h f cs:=(rfl)
theorem r_skip:C.run call lp .skip s k=k .nrm s:=(rfl)
theorem r_seq:C.run call lp (.seq b c) s k=b.run call lp s (seqK call lp c k):=(rfl)
theorem r_reg (ops:List TA):C.run call lp (.reg ops) s k=OG call lp ops s (regK k):=(rfl)
theorem r_cond (x:aC):C.run call lp (.cond x b c) s k=P6 (x.get s) (b.run call lp s k) (c.run call lp s k):=(rfl)
theorem r_block:C.run call lp (.block id b) s k=b.run call lp s (blkK id k):=(rfl)
theorem r_loop:C.run call (RJ T ext) (.loop b) s k=WI T ext b s k:=(rfl)
theorem r_exit:C.run call lp (.exit id) s k=k (.exit id) s:=(rfl)
theorem r_ret:C.run call lp .ret s k=k .ret s:=(rfl)
theorem a_nrm:tL lp b k .nrm s=lp b s k:=(rfl)
theorem a_exit:tL lp b k (.exit j) s=k (.exit j) s:=(rfl)
theorem a_ret:tL lp b k .ret s=k .ret s:=(rfl)
theorem o_nil (k:aA->Option RV):OG call lp [] s k=k s:=(rfl)
theorem o_cons (o:TA) (r:List TA) (k:aA->Option RV):OG call lp (o :: r) s k=o.stepK call lp s (opK call lp r k):=(rfl)
theorem s_plain (d:Option Nat) (op:K):TA.step call ⟨d,op,none⟩ s=(op.run call s).bind (TA.eff ⟨d,op,none⟩ s):=(rfl)
theorem s_guard (d:Option Nat) (op:K) (t:Nat) (w:Bool):TA.step call ⟨d,op,some (t,w)⟩ s=ZT (s.env t).v w ((op.run call s).bind (TA.eff ⟨d,op,none⟩ s)) (some (s.put d ⟨.tup [],.no⟩)):=by
 simp only [TA.step,ZT];generalize (s.env t).v=v;cases v with
 | tup l=>cases l <;> rfl
 | _=>rfl
theorem k_callh (d:Option Nat) (nt:Nat) (x:aC) (xs:List aC) (g:Option (Nat × Bool)) (k:aA->Option RV):TA.stepK call lp ⟨d,.callh nt x xs,g⟩ s k=BJ s d g (KO lp d nt x xs s k) k:=(rfl)
theorem hg_none (d:Option Nat) (a:Option RV) (k:aA->Option RV):BJ s d none a k=a:=(rfl)
theorem hg_some (d:Option Nat) (t:Nat) (w:Bool) (a:Option RV) (k:aA->Option RV):BJ s d (some (t,w)) a k=XT (s.env t).v w a (k (s.put d ⟨.tup [],.no⟩)):=by
 simp only [BJ,XT];generalize (s.env t).v=v;cases v with
 | tup l=>cases l <;> rfl
 | _=>rfl
theorem h_step (d:Option Nat) (nt:Nat) (x:aC) (xs:List aC) (k:aA->Option RV):KO (RJ T ext) d nt x xs s k=fnC (x.get s) fun f cs=>evH T ext f (fP s xs++cs.map (⟨·,.no⟩)) (s.enter nt) (callK d nt k):=by
 simp only [KO,fnC];generalize x.get s=v;cases v <;> rfl
section
variable (d:Option Nat) (g:Option (Nat × Bool)) (k:aA->Option RV)
section
variable {x0}
include x0
theorem k_mv:TA.stepK call lp ⟨d,.mv x0,g⟩ s k=(TA.step call ⟨d,.mv x0,g⟩ s).bind k:=(rfl)
theorem k_pick {x1} {x2}:TA.stepK call lp ⟨d,.pick x0 x1 x2,g⟩ s k=(TA.step call ⟨d,.pick x0 x1 x2,g⟩ s).bind k:=(rfl)
theorem k_alloc:TA.stepK call lp ⟨d,.alloc x0,g⟩ s k=(TA.step call ⟨d,.alloc x0,g⟩ s).bind k:=(rfl)
theorem k_box {x1}:TA.stepK call lp ⟨d,.box x0 x1,g⟩ s k=(TA.step call ⟨d,.box x0 x1,g⟩ s).bind k:=(rfl)
theorem k_build {x1}:TA.stepK call lp ⟨d,.build x0 x1,g⟩ s k=(TA.step call ⟨d,.build x0 x1,g⟩ s).bind k:=(rfl)
theorem k_bsl {x1} {x2}:TA.stepK call lp ⟨d,.bsl x0 x1 x2,g⟩ s k=(TA.step call ⟨d,.bsl x0 x1 x2,g⟩ s).bind k:=(rfl)
theorem k_bslr {x1} {x2} {x3}:TA.stepK call lp ⟨d,.bslr x0 x1 x2 x3,g⟩ s k=(TA.step call ⟨d,.bslr x0 x1 x2 x3,g⟩ s).bind k:=(rfl)
theorem k_load {x1} {x2} {x3}:TA.stepK call lp ⟨d,.load x0 x1 x2 x3,g⟩ s k=(TA.step call ⟨d,.load x0 x1 x2 x3,g⟩ s).bind k:=(rfl)
theorem k_store {x1} {x2} {x3} {x4}:TA.stepK call lp ⟨d,.store x0 x1 x2 x3 x4,g⟩ s k=(TA.step call ⟨d,.store x0 x1 x2 x3 x4,g⟩ s).bind k:=(rfl)
theorem k_bin {x1} {x2} {x3}:TA.stepK call lp ⟨d,.bin x0 x1 x2 x3,g⟩ s k=(TA.step call ⟨d,.bin x0 x1 x2 x3,g⟩ s).bind k:=(rfl)
theorem k_mm {x1} {x2}:TA.stepK call lp ⟨d,.mm x0 x1 x2,g⟩ s k=(TA.step call ⟨d,.mm x0 x1 x2,g⟩ s).bind k:=(rfl)
theorem k_eqa {x1} {x2} {x3}:TA.stepK call lp ⟨d,.eqa x0 x1 x2 x3,g⟩ s k=(TA.step call ⟨d,.eqa x0 x1 x2 x3,g⟩ s).bind k:=(rfl)
theorem k_eqn {x1} {x2} {x3}:TA.stepK call lp ⟨d,.eqn x0 x1 x2 x3,g⟩ s k=(TA.step call ⟨d,.eqn x0 x1 x2 x3,g⟩ s).bind k:=(rfl)
theorem k_un {x1}:TA.stepK call lp ⟨d,.un x0 x1,g⟩ s k=(TA.step call ⟨d,.un x0 x1,g⟩ s).bind k:=(rfl)
theorem k_conv {x1}:TA.stepK call lp ⟨d,.conv x0 x1,g⟩ s k=(TA.step call ⟨d,.conv x0 x1,g⟩ s).bind k:=(rfl)
theorem k_rstr:TA.stepK call lp ⟨d,.rstr x0,g⟩ s k=(TA.step call ⟨d,.rstr x0,g⟩ s).bind k:=(rfl)
theorem k_bstr {x1}:TA.stepK call lp ⟨d,.bstr x0 x1,g⟩ s k=(TA.step call ⟨d,.bstr x0 x1,g⟩ s).bind k:=(rfl)
theorem k_clr {x1} {x2}:TA.stepK call lp ⟨d,.clr x0 x1 x2,g⟩ s k=(TA.step call ⟨d,.clr x0 x1 x2,g⟩ s).bind k:=(rfl)
theorem k_mks {x1} {x2} {x3} {x4}:TA.stepK call lp ⟨d,.mks x0 x1 x2 x3 x4,g⟩ s k=(TA.step call ⟨d,.mks x0 x1 x2 x3 x4,g⟩ s).bind k:=(rfl)
theorem k_slc {x1} {x2} {x3} {x4} {x5}:TA.stepK call lp ⟨d,.slc x0 x1 x2 x3 x4 x5,g⟩ s k=(TA.step call ⟨d,.slc x0 x1 x2 x3 x4 x5,g⟩ s).bind k:=(rfl)
theorem k_aslc {x1} {x2} {x3} {x4} {x5}:TA.stepK call lp ⟨d,.aslc x0 x1 x2 x3 x4 x5,g⟩ s k=(TA.step call ⟨d,.aslc x0 x1 x2 x3 x4 x5,g⟩ s).bind k:=(rfl)
theorem k_faddr {x1}:TA.stepK call lp ⟨d,.faddr x0 x1,g⟩ s k=(TA.step call ⟨d,.faddr x0 x1,g⟩ s).bind k:=(rfl)
theorem k_field {x1} {x2} {x3}:TA.stepK call lp ⟨d,.field x0 x1 x2 x3,g⟩ s k=(TA.step call ⟨d,.field x0 x1 x2 x3,g⟩ s).bind k:=(rfl)
theorem k_iaddr {x1} {x2}:TA.stepK call lp ⟨d,.iaddr x0 x1 x2,g⟩ s k=(TA.step call ⟨d,.iaddr x0 x1 x2,g⟩ s).bind k:=(rfl)
theorem k_aaddr {x1} {x2} {x3}:TA.stepK call lp ⟨d,.aaddr x0 x1 x2 x3,g⟩ s k=(TA.step call ⟨d,.aaddr x0 x1 x2 x3,g⟩ s).bind k:=(rfl)
theorem k_index {x1}:TA.stepK call lp ⟨d,.index x0 x1,g⟩ s k=(TA.step call ⟨d,.index x0 x1,g⟩ s).bind k:=(rfl)
theorem k_ext {x1}:TA.stepK call lp ⟨d,.ext x0 x1,g⟩ s k=(TA.step call ⟨d,.ext x0 x1,g⟩ s).bind k:=(rfl)
theorem k_call {x1} {x2}:TA.stepK call lp ⟨d,.call x0 x1 x2,g⟩ s k=(TA.step call ⟨d,.call x0 x1 x2,g⟩ s).bind k:=(rfl)
theorem k_callf {x1} {x2} {x3}:TA.stepK call lp ⟨d,.callf x0 x1 x2 x3,g⟩ s k=(TA.step call ⟨d,.callf x0 x1 x2 x3,g⟩ s).bind k:=(rfl)
theorem k_mkf {x1}:TA.stepK call lp ⟨d,.mkf x0 x1,g⟩ s k=(TA.step call ⟨d,.mkf x0 x1,g⟩ s).bind k:=(rfl)
theorem k_callv {x1} {x2}:TA.stepK call lp ⟨d,.callv x0 x1 x2,g⟩ s k=(TA.step call ⟨d,.callv x0 x1 x2,g⟩ s).bind k:=(rfl)
theorem k_callr {x1} {x2}:TA.stepK call lp ⟨d,.callr x0 x1 x2,g⟩ s k=(TA.step call ⟨d,.callr x0 x1 x2,g⟩ s).bind k:=(rfl)
theorem k_len {x1}:TA.stepK call lp ⟨d,.len x0 x1,g⟩ s k=(TA.step call ⟨d,.len x0 x1,g⟩ s).bind k:=(rfl)
theorem k_app {x1} {x2} {x3} {x4} {x5}:TA.stepK call lp ⟨d,.app x0 x1 x2 x3 x4 x5,g⟩ s k=(TA.step call ⟨d,.app x0 x1 x2 x3 x4 x5,g⟩ s).bind k:=(rfl)
theorem k_appf {x1} {x2} {x3} {x4} {x5}:TA.stepK call lp ⟨d,.appf x0 x1 x2 x3 x4 x5,g⟩ s k=(TA.step call ⟨d,.appf x0 x1 x2 x3 x4 x5,g⟩ s).bind k:=(rfl)
theorem k_appm {x1} {x2} {x3} {x4} {x5}:TA.stepK call lp ⟨d,.appm x0 x1 x2 x3 x4 x5,g⟩ s k=(TA.step call ⟨d,.appm x0 x1 x2 x3 x4 x5,g⟩ s).bind k:=(rfl)
theorem k_appn {x1} {x2} {x3} {x4} {x5}:TA.stepK call lp ⟨d,.appn x0 x1 x2 x3 x4 x5,g⟩ s k=(TA.step call ⟨d,.appn x0 x1 x2 x3 x4 x5,g⟩ s).bind k:=(rfl)
end
theorem k_mkm:TA.stepK call lp ⟨d,.mkm,g⟩ s k=(TA.step call ⟨d,.mkm,g⟩ s).bind k:=(rfl)
theorem k_bad:TA.stepK call lp ⟨d,.bad,g⟩ s k=(TA.step call ⟨d,.bad,g⟩ s).bind k:=(rfl)
theorem k_mkb {T e:TypeId}:TA.stepK call lp ⟨d,.mkb T e,g⟩ s k=(TA.step call ⟨d,.mkb T e,g⟩ s).bind k:=(rfl)
theorem k_mget {x0} {x1} {x2} {x3} {x4}:TA.stepK call lp ⟨d,.mget x0 x1 x2 x3 x4,g⟩ s k=(TA.step call ⟨d,.mget x0 x1 x2 x3 x4,g⟩ s).bind k:=(rfl)
theorem k_mset {x0} {x1} {x2} {x3}:TA.stepK call lp ⟨d,.mset x0 x1 x2 x3,g⟩ s k=(TA.step call ⟨d,.mset x0 x1 x2 x3,g⟩ s).bind k:=(rfl)
theorem k_mlen {x0}:TA.stepK call lp ⟨d,.mlen x0,g⟩ s k=(TA.step call ⟨d,.mlen x0,g⟩ s).bind k:=(rfl)
theorem k_rng {x0}:TA.stepK call lp ⟨d,.rng x0,g⟩ s k=(TA.step call ⟨d,.rng x0,g⟩ s).bind k:=(rfl)
theorem k_slz {x0}:TA.stepK call lp ⟨d,.slz x0,g⟩ s k=(TA.step call ⟨d,.slz x0,g⟩ s).bind k:=(rfl)
theorem k_ent {x0}:TA.stepK call lp ⟨d,.ent x0,g⟩ s k=(TA.step call ⟨d,.ent x0,g⟩ s).bind k:=(rfl)
theorem k_nxt {x0}:TA.stepK call lp ⟨d,.nxt x0,g⟩ s k=BJ s d g (GX d x0 s k) k:=(rfl)
theorem k_nilchk {x0}:TA.stepK call lp ⟨d,.nilchk x0,g⟩ s k=(TA.step call ⟨d,.nilchk x0,g⟩ s).bind k:=(rfl)
end
theorem e_none (d:Option Nat) (op:K) (g:Option (Nat × Bool)) (x:wA):TA.eff ⟨d,op,g⟩ s (x,.none)=some (s.put d x):=(rfl)
theorem e_set (d:Option Nat) (op:K) (g:Option (Nat × Bool)) (x:wA) (t n:Nat) (r:List wA):TA.eff ⟨d,op,g⟩ s (x,.set t n r)=some ((s.setRow t n r).put d x):=(rfl)
theorem e_newp (d:Nat) (op:K) (g:Option (Nat × Bool)) (t n o:Nat) (a:An) (r:List wA):TA.eff ⟨some d,op,g⟩ s (⟨.ptr t n o,a⟩,.new r)=some ((s.setRow d s.next r).put (some d) ⟨.ptr d s.next 0,.no⟩):=(rfl)
theorem e_newr (d:Nat) (op:K) (g:Option (Nat × Bool)) (t n z o l p:Nat) (a:An) (r:List wA):TA.eff ⟨some d,op,g⟩ s (⟨.ref t n z o l p,a⟩,.new r)=some ((s.setRow d s.next r).put (some d) ⟨.ref d s.next z o l p,.no⟩):=(rfl)
theorem e_app (d:Nat) (op:K) (g:Option (Nat × Bool)) (v:AV) (a:An) (kk j:Nat) (e:TypeId):TA.eff ⟨some d,op,g⟩ s (⟨v,.own kk e⟩,.app a j)=some (((s.stripA a).strip d).put (some d) ⟨v,.own d e⟩):=(rfl)
theorem e_obj (d:Option Nat) (op:K) (g:Option (Nat × Bool)) (x:wA) (t n:Nat) (S:AV):TA.eff ⟨d,op,g⟩ s (x,.obj t n S)=some ((s.setObj t n S).put d x):=(rfl)
theorem e_mk (d:Nat) (op:K) (g:Option (Nat × Bool)) (x:wA) (S:AV):TA.eff ⟨some d,op,g⟩ s (x,.mk S)=some ((s.setObj d s.next S).put (some d) ⟨x.v.named d s.next,.no⟩):=(rfl)
theorem e_rn (d:Nat) (op:K) (g:Option (Nat × Bool)) (t n z o l p:Nat) (a:An) (q:Option (Nat × Nat)) (r:List wA):TA.eff ⟨some d,op,g⟩ s (⟨.ref t n z o l p,a⟩,.rn q r)=some (((s.killO q).setRow d s.next r).put (some d) ⟨.ref d s.next z o l p,.no⟩):=(rfl)
theorem e_ob2 (d:Nat) (op:K) (g:Option (Nat × Bool)) (t n z o l p:Nat) (a:An) (t' n':Nat) (S:AV) (r:List wA):TA.eff ⟨some d,op,g⟩ s (⟨.ref t n z o l p,a⟩,.ob2 t' n' S r)=some (((s.setObj t' n' S).setRow d s.next r).put (some d) ⟨.ref d s.next z o l p,.no⟩):=(rfl)
theorem run_cg {b:C} {s s':aA} {k:Ex->aA->Option RV} (h:s=s'):C.run call lp b s k=C.run call lp b s' k:=by rw [h]
theorem ops_cg {l:List TA} {s s':aA} {k:aA->Option RV} (h:s=s'):OG call lp l s k=OG call lp l s' k:=by rw [h]
theorem stepK_cg {o:TA} {s s':aA} {k:aA->Option RV} (h:s=s'):TA.stepK call lp o s k=TA.stepK call lp o s' k:=by rw [h]
theorem bind_cg {α β:Type} {a a':Option α} {f:α->Option β} (h:a=a'):a.bind f=a'.bind f:=by rw [h]
theorem condC_cg {v v':AV} {a b:Option RV} (h:v=v'):P6 v a b=P6 v' a b:=by rw [h]
theorem guardC_cg {v v':AV} {w:Bool} {a b:Option aA} (h:v=v'):ZT v w a b=ZT v' w a b:=by rw [h]
theorem guardK_cg {v v':AV} {w:Bool} {a b:Option RV} (h:v=v'):XT v w a b=XT v' w a b:=by rw [h]
theorem fnC_cg {v v':AV} {g:Nat->List AV->Option RV} (h:v=v'):fnC v g=fnC v' g:=by rw [h]
theorem evL_cg {T:Nat->Option MA} {ext:JB} {b:C} {s s':aA} {k:Ex->aA->Option RV} (h:s=s'):WI T ext b s k=WI T ext b s' k:=by rw [h]
theorem evH_cg {T:Nat->Option MA} {ext:JB} {f:Nat} {xs xh:List wA} {s s':aA} {k:wA->aA->Option RV} (hx:xs=xh) (h:s=s'):evH T ext f xs s k=evH T ext f xh s' k:=by rw [h,hx]
end
attribute [congr] run_cg ops_cg stepK_cg bind_cg condC_cg guardC_cg guardK_cg fnC_cg evL_cg evH_cg
attribute [simp] k_clr k_rng k_slz k_ent k_nxt k_bad k_mkb k_mv k_pick k_alloc k_box k_build k_bsl k_bslr k_load k_store k_bin k_mm k_eqa k_eqn k_un k_conv k_rstr k_bstr k_mks k_slc k_aslc k_faddr k_field k_iaddr k_aaddr k_index k_ext k_call k_callf k_mkf k_callv k_callr k_callh k_len k_app k_appf k_appm k_appn k_mkm k_mget k_mset k_mlen k_nilchk M6 J9 fnC_fn hg_none hg_some h_step opK_at callK_at undE_at rowE_at drop0M_at slotE_at QE fN j8 m_initH m_enter m_leave m_initR m_drop0
attribute [simp] nH uB setO_at T3 U3 wA.strip_v wA.strip_a wA.strip_mk argE_at noM_at objE_at pB nB wA.kill_v wA.kill_a wA.kill_mk
attribute [simp] e_ob2 frz_free frz_map AV.frz AV.frz0 B1 u7 AV.kill AV.kill0 m_kill m_kill0 e_rn m_init m_put m_put0 m_row m_obj m_strip m_stripA m_stripX An.strip e_none e_set e_newp e_newr e_app e_obj e_mk K.run aC.get UA AV.leaf AV.whole AV.cells FT mmC MK SS RB xG Cl.okPtr Cl.okMem cS fin tX objAt QJ zT AV.free AV.free0 AV.back AV.backN AV.isObj AV.named jW TF KF RD TP AV.capOk US rL pJ AV.elems aC.an rB elsOk_nil XW BA KB CW A9 Q5
attribute [simp ↓] x9 seqK_nrm seqK_exit seqK_ret regK_at blkK_nrm blkK_exit blkK_ret U9 A6 N6 H9 r_skip r_seq r_reg r_cond r_block r_loop r_exit r_ret a_nrm a_exit a_ret o_nil o_cons s_plain s_guard
end
def tA:JB:=fun _ _ _=>none
theorem bldExt_ok {O:PH} (f:FuncId) (args:List AV) (S:Option AV) (r:RV) (h:tA f args S=some r):DD Tryz.prog O f args S r:=by cases h

abbrev i6 (n:Int):AV:=.int .i64 n
abbrev f6:AV:=.bool false
abbrev t6:AV:=.bool true
abbrev n6:AV:=.sl true []
abbrev e6:AV:=.str ⟨#[]⟩
abbrev i0:AV:=.int .i64 0
def awl_M0:List ME:=[]
theorem awl_k0:IA jA tA awl_M0:=IA.nil
abbrev va:AV:=(.sl false [[(i6 5),(.str (.mk #[82])),i0,i0,i0,n6,(.sl false [[(i6 1),(.str (.mk #[120])),(i6 1),f6,t6,(i6 1),t6,i0,e6,i0,n6,n6,n6]]),i0,i0,f6],[(i6 1),e6,i0,i0,i0,n6,n6,i0,i0,f6]])
abbrev vc:AV:=(.sl false [[(i6 5),(.str (.mk #[82])),i0,i0,i0,n6,(.sl false [[(i6 1),(.str (.mk #[120])),(i6 1),f6,t6,(i6 1),f6,i0,e6,i0,n6,n6,n6]]),i0,i0,f6],[(i6 1),e6,i0,i0,i0,n6,n6,i0,i0,f6]])
abbrev vf:AV:=(.sl false [[(i6 5),(.str (.mk #[82])),i0,i0,i0,n6,n6,i0,i0,f6],[(i6 1),e6,i0,i0,i0,n6,n6,i0,i0,f6]])
abbrev vg:AV:=(.sl false [[(i6 7),e6,i0,i0,(i6 2),n6,n6,i0,(i6 1),f6],[(i6 2),e6,i0,(i6 5),i0,n6,n6,i0,i0,f6]])
abbrev vh:AV:=(.sl false [[(i6 5),(.str (.mk #[82])),i0,i0,i0,n6,(.sl false [[(i6 1),(.str (.mk #[120])),(i6 1),f6,f6,i0,f6,i0,e6,i0,n6,n6,n6]]),i0,i0,f6],[(i6 1),e6,i0,i0,i0,n6,n6,i0,i0,f6]])
abbrev vj:AV:=(.sl false [[(i6 7),e6,i0,i0,(i6 2),n6,n6,i0,(i6 1),f6],[(i6 2),e6,i0,(i6 9),i0,n6,n6,i0,i0,f6]])
abbrev vl:AV:=(.sl false [[(i6 7),e6,i0,i0,i0,n6,n6,i0,(i6 1),f6],[(i6 2),e6,i0,(i6 9),i0,n6,n6,i0,i0,f6]])
abbrev vm:AV:=(.agg [va])
abbrev vn:AV:=(.tup [(.sl false [[t6],[t6]]),i0])
abbrev vo:AV:=(.agg [va,i0])
abbrev vp:AV:=(.tup [(.sl false [[i0,i0]]),(.sl false [[(i6 (-1))]])])
abbrev vq:AV:=(.agg [vf,i0])
abbrev vt:AV:=(.agg [vc])
abbrev vu:AV:=(.sl false [[(i6 2)],[(i6 2)]])
abbrev vv:AV:=(.agg [vg])
abbrev vz:AV:=(.agg [vf])
abbrev vA:AV:=(.tup [(.sl false [[i0,i0],[(i6 1),(i6 1)]]),(.sl false [[(i6 (-1))],[i0]])])
abbrev vB:AV:=(.tup [i0,i0,i0])
abbrev vC:AV:=(.agg [(i6 1),t6,i0,e6,i0,n6,n6,n6])
abbrev vD:AV:=(.agg [vj])
abbrev vE:AV:=(.tup [n6,i0,(i6 15)])
abbrev vF:AV:=(.agg [vc,i0])
abbrev vG:AV:=(.agg [vl])
abbrev vH:AV:=(.agg [vh])
abbrev vI:AV:=(.agg [vg,i0])
def awl_M1:List ME:=⟨53,[f6,f6,f6],none,(vq,none)⟩ :: awl_M0
theorem awl_k1:IA jA tA awl_M1:=awl_k0.more 3000 _ (by kernel_rfl)
def awl_M2:List ME:=⟨53,[t6,t6,f6],none,(vF,none)⟩ :: awl_M1
theorem awl_k2:IA jA tA awl_M2:=awl_k1.more 3000 _ (by kernel_rfl)
def awl_M3:List ME:=⟨53,[t6,t6,t6],none,(vo,none)⟩ :: awl_M2
theorem awl_k3:IA jA tA awl_M3:=awl_k2.more 3000 _ (by kernel_rfl)
def awl_M4:List ME:=⟨74,[vz],none,(i0,none)⟩ :: awl_M3
theorem awl_k4:IA jA tA awl_M4:=awl_k3.more 3000 _ (by kernel_rfl)
def awl_M5:List ME:=⟨75,[vz],none,(vB,none)⟩ :: awl_M4
theorem awl_k5:IA jA tA awl_M5:=awl_k4.more 3000 _ (by kernel_rfl)
def awl_M6:List ME:=⟨41,[vz],none,(i0,none)⟩ :: awl_M5
theorem awl_k6:IA jA tA awl_M6:=awl_k5.more 3000 _ (by kernel_rfl)
def awl_M7:List ME:=⟨42,[vz],none,((.sl false [[(i6 1)],[(i6 2)]]),none)⟩ :: awl_M6
theorem awl_k7:IA jA tA awl_M7:=awl_k6.more 3000 _ (by kernel_rfl)
def awl_M8:List ME:=⟨10,[vz],none,(vn,none)⟩ :: awl_M7
theorem awl_k8:IA jA tA awl_M8:=awl_k7.more 3000 _ (by kernel_rfl)
def awl_M9:List ME:=⟨20,[vz],none,(i0,none)⟩ :: awl_M8
theorem awl_k9:IA jA tA awl_M9:=awl_k8.more 3000 _ (by kernel_rfl)
def awl_M10:List ME:=⟨74,[vm],none,(i0,none)⟩ :: awl_M9
theorem awl_k10:IA jA tA awl_M10:=awl_k9.more 3000 _ (by kernel_rfl)
def awl_M11:List ME:=⟨75,[vm],none,(vB,none)⟩ :: awl_M10
theorem awl_k11:IA jA tA awl_M11:=awl_k10.more 3000 _ (by kernel_rfl)
def awl_M12:List ME:=⟨41,[vm],none,(i0,none)⟩ :: awl_M11
theorem awl_k12:IA jA tA awl_M12:=awl_k11.more 3000 _ (by kernel_rfl)
def awl_M13:List ME:=⟨42,[vm],none,(vu,none)⟩ :: awl_M12
theorem awl_k13:IA jA tA awl_M13:=awl_k12.more 3000 _ (by kernel_rfl)
def awl_M14:List ME:=⟨10,[vm],none,(vn,none)⟩ :: awl_M13
theorem awl_k14:IA jA tA awl_M14:=awl_k13.more 3000 _ (by kernel_rfl)
def awl_M15:List ME:=⟨20,[vm],none,(i0,none)⟩ :: awl_M14
theorem awl_k15:IA jA tA awl_M15:=awl_k14.more 3000 _ (by kernel_rfl)
def awl_M16:List ME:=⟨63,[vz,i0,vm,i0],none,(n6,none)⟩ :: awl_M15
theorem awl_k16:IA jA tA awl_M16:=awl_k15.more 3000 _ (by kernel_rfl)
def awl_M17:List ME:=⟨64,[vq,vo],none,(vp,none)⟩ :: awl_M16
theorem awl_k17:IA jA tA awl_M17:=awl_k16.more 3000 _ (by kernel_rfl)
def awl_M18:List ME:=⟨62,[vz,i0,vm,i0],none,(i0,none)⟩ :: awl_M17
theorem awl_k18:IA jA tA awl_M18:=awl_k17.more 3000 _ (by kernel_rfl)
def awl_M19:List ME:=⟨34,[vq,vo],none,(vE,none)⟩ :: awl_M18
theorem awl_k19:IA jA tA awl_M19:=awl_k18.more 3000 _ (by kernel_rfl)
def awl_M20:List ME:=⟨27,[vq,vo],none,((.tup [t6,i0]),none)⟩ :: awl_M19
theorem awl_k20:IA jA tA awl_M20:=awl_k19.more 3000 _ (by kernel_rfl)
def awl_M21:List ME:=⟨63,[vm,i0,vz,i0],none,(n6,none)⟩ :: awl_M20
theorem awl_k21:IA jA tA awl_M21:=awl_k20.more 3000 _ (by kernel_rfl)
def awl_M22:List ME:=⟨64,[vo,vq],none,(vp,none)⟩ :: awl_M21
theorem awl_k22:IA jA tA awl_M22:=awl_k21.more 3000 _ (by kernel_rfl)
def awl_M23:List ME:=⟨62,[vm,i0,vz,i0],none,(i0,none)⟩ :: awl_M22
theorem awl_k23:IA jA tA awl_M23:=awl_k22.more 3000 _ (by kernel_rfl)
def awl_M24:List ME:=⟨34,[vo,vq],none,(vE,none)⟩ :: awl_M23
theorem awl_k24:IA jA tA awl_M24:=awl_k23.more 3000 _ (by kernel_rfl)
def awl_M25:List ME:=⟨27,[vo,vq],none,((.tup [t6,i0]),none)⟩ :: awl_M24
theorem awl_k25:IA jA tA awl_M25:=awl_k24.more 3000 _ (by kernel_rfl)
def awl_M26:List ME:=⟨74,[vt],none,(i0,none)⟩ :: awl_M25
theorem awl_k26:IA jA tA awl_M26:=awl_k25.more 3000 _ (by kernel_rfl)
def awl_M27:List ME:=⟨75,[vt],none,(vB,none)⟩ :: awl_M26
theorem awl_k27:IA jA tA awl_M27:=awl_k26.more 3000 _ (by kernel_rfl)
def awl_M28:List ME:=⟨41,[vt],none,(i0,none)⟩ :: awl_M27
theorem awl_k28:IA jA tA awl_M28:=awl_k27.more 3000 _ (by kernel_rfl)
def awl_M29:List ME:=⟨42,[vt],none,(vu,none)⟩ :: awl_M28
theorem awl_k29:IA jA tA awl_M29:=awl_k28.more 3000 _ (by kernel_rfl)
def awl_M30:List ME:=⟨10,[vt],none,(vn,none)⟩ :: awl_M29
theorem awl_k30:IA jA tA awl_M30:=awl_k29.more 3000 _ (by kernel_rfl)
def awl_M31:List ME:=⟨20,[vt],none,(i0,none)⟩ :: awl_M30
theorem awl_k31:IA jA tA awl_M31:=awl_k30.more 3000 _ (by kernel_rfl)
def awl_M32:List ME:=⟨63,[vz,i0,vt,i0],none,(n6,none)⟩ :: awl_M31
theorem awl_k32:IA jA tA awl_M32:=awl_k31.more 3000 _ (by kernel_rfl)
def awl_M33:List ME:=⟨64,[vq,vF],none,(vp,none)⟩ :: awl_M32
theorem awl_k33:IA jA tA awl_M33:=awl_k32.more 3000 _ (by kernel_rfl)
def awl_M34:List ME:=⟨62,[vz,i0,vt,i0],none,(i0,none)⟩ :: awl_M33
theorem awl_k34:IA jA tA awl_M34:=awl_k33.more 3000 _ (by kernel_rfl)
def awl_M35:List ME:=⟨34,[vq,vF],none,(vE,none)⟩ :: awl_M34
theorem awl_k35:IA jA tA awl_M35:=awl_k34.more 3000 _ (by kernel_rfl)
def awl_M36:List ME:=⟨27,[vq,vF],none,((.tup [t6,i0]),none)⟩ :: awl_M35
theorem awl_k36:IA jA tA awl_M36:=awl_k35.more 3000 _ (by kernel_rfl)
def awl_M37:List ME:=⟨63,[vm,i0,vt,i0],none,((.sl false [[(i6 1),(i6 1)]]),none)⟩ :: awl_M36
theorem awl_k37:IA jA tA awl_M37:=awl_k36.more 3000 _ (by kernel_rfl)
def awl_M38:List ME:=⟨63,[vm,(i6 1),vt,(i6 1)],none,(n6,none)⟩ :: awl_M37
theorem awl_k38:IA jA tA awl_M38:=awl_k37.more 3000 _ (by kernel_rfl)
def awl_M39:List ME:=⟨64,[vo,vF],none,(vA,none)⟩ :: awl_M38
theorem awl_k39:IA jA tA awl_M39:=awl_k38.more 3000 _ (by kernel_rfl)
def awl_M40:List ME:=⟨135,[vm,(i6 1),vC,vt,(i6 1)],none,((.tup [vC,i0]),none)⟩ :: awl_M39
theorem awl_k40:IA jA tA awl_M40:=awl_k39.more 3000 _ (by kernel_rfl)
def awl_M41:List ME:=⟨62,[vm,i0,vt,i0],none,((i6 10),none)⟩ :: awl_M40
theorem awl_k41:IA jA tA awl_M41:=awl_k40.more 3000 _ (by kernel_rfl)
def awl_M42:List ME:=⟨34,[vo,vF],none,((.tup [(.sl false [[i0,i0]]),(i6 10),i0]),none)⟩ :: awl_M41
theorem awl_k42:IA jA tA awl_M42:=awl_k41.more 3000 _ (by kernel_rfl)
def awl_M43:List ME:=⟨27,[vo,vF],none,((.tup [f6,i0]),none)⟩ :: awl_M42
theorem awl_k43:IA jA tA awl_M43:=awl_k42.more 3000 _ (by kernel_rfl)
def awl_M44:List ME:=⟨63,[vm,i0,vm,i0],none,((.sl false [[(i6 1),(i6 1)]]),none)⟩ :: awl_M43
theorem awl_k44:IA jA tA awl_M44:=awl_k43.more 3000 _ (by kernel_rfl)
def awl_M45:List ME:=⟨63,[vm,(i6 1),vm,(i6 1)],none,(n6,none)⟩ :: awl_M44
theorem awl_k45:IA jA tA awl_M45:=awl_k44.more 3000 _ (by kernel_rfl)
def awl_M46:List ME:=⟨64,[vo,vo],none,(vA,none)⟩ :: awl_M45
theorem awl_k46:IA jA tA awl_M46:=awl_k45.more 3000 _ (by kernel_rfl)
def awl_M47:List ME:=⟨135,[vm,(i6 1),vC,vm,(i6 1)],none,((.tup [vC,i0]),none)⟩ :: awl_M46
theorem awl_k47:IA jA tA awl_M47:=awl_k46.more 3000 _ (by kernel_rfl)
def awl_M48:List ME:=⟨62,[vm,i0,vm,i0],none,(i0,none)⟩ :: awl_M47
theorem awl_k48:IA jA tA awl_M48:=awl_k47.more 3000 _ (by kernel_rfl)
def awl_M49:List ME:=⟨62,[vm,(i6 1),vm,(i6 1)],none,(i0,none)⟩ :: awl_M48
theorem awl_k49:IA jA tA awl_M49:=awl_k48.more 3000 _ (by kernel_rfl)
def awl_M50:List ME:=⟨34,[vo,vo],none,(vE,none)⟩ :: awl_M49
theorem awl_k50:IA jA tA awl_M50:=awl_k49.more 3000 _ (by kernel_rfl)
def awl_M51:List ME:=⟨27,[vo,vo],none,((.tup [t6,i0]),none)⟩ :: awl_M50
theorem awl_k51:IA jA tA awl_M51:=awl_k50.more 3000 _ (by kernel_rfl)
def awl_M52:List ME:=⟨53,[t6,f6,f6],none,((.agg [vh,i0]),none)⟩ :: awl_M51
theorem awl_k52:IA jA tA awl_M52:=awl_k51.more 3000 _ (by kernel_rfl)
def awl_M53:List ME:=⟨74,[vH],none,(i0,none)⟩ :: awl_M52
theorem awl_k53:IA jA tA awl_M53:=awl_k52.more 3000 _ (by kernel_rfl)
def awl_M54:List ME:=⟨75,[vH],none,(vB,none)⟩ :: awl_M53
theorem awl_k54:IA jA tA awl_M54:=awl_k53.more 3000 _ (by kernel_rfl)
def awl_M55:List ME:=⟨41,[vH],none,(i0,none)⟩ :: awl_M54
theorem awl_k55:IA jA tA awl_M55:=awl_k54.more 3000 _ (by kernel_rfl)
def awl_M56:List ME:=⟨42,[vH],none,(vu,none)⟩ :: awl_M55
theorem awl_k56:IA jA tA awl_M56:=awl_k55.more 3000 _ (by kernel_rfl)
def awl_M57:List ME:=⟨10,[vH],none,(vn,none)⟩ :: awl_M56
theorem awl_k57:IA jA tA awl_M57:=awl_k56.more 3000 _ (by kernel_rfl)
def awl_M58:List ME:=⟨20,[vH],none,(i0,none)⟩ :: awl_M57
theorem awl_k58:IA jA tA awl_M58:=awl_k57.more 3000 _ (by kernel_rfl)
def awl_M59:List ME:=⟨62,[vm,i0,vH,i0],none,((i6 7),none)⟩ :: awl_M58
theorem awl_k59:IA jA tA awl_M59:=awl_k58.more 3000 _ (by kernel_rfl)
def awl_M60:List ME:=⟨31,[vm,i0,vH,i0],none,((.tup [(i6 7),i0]),none)⟩ :: awl_M59
theorem awl_k60:IA jA tA awl_M60:=awl_k59.more 3000 _ (by kernel_rfl)
def awl_M61:List ME:=⟨31,[vm,i0,vt,i0],none,((.tup [(i6 10),i0]),none)⟩ :: awl_M60
theorem awl_k61:IA jA tA awl_M61:=awl_k60.more 3000 _ (by kernel_rfl)
def awl_M62:List ME:=⟨54,[(i6 9),(i6 2)],none,((.agg [vj,i0]),none)⟩ :: awl_M61
theorem awl_k62:IA jA tA awl_M62:=awl_k61.more 3000 _ (by kernel_rfl)
def awl_M63:List ME:=⟨54,[(i6 5),(i6 2)],none,(vI,none)⟩ :: awl_M62
theorem awl_k63:IA jA tA awl_M63:=awl_k62.more 3000 _ (by kernel_rfl)
def awl_M64:List ME:=⟨74,[vD],none,(i0,none)⟩ :: awl_M63
theorem awl_k64:IA jA tA awl_M64:=awl_k63.more 3000 _ (by kernel_rfl)
def awl_M65:List ME:=⟨75,[vD],none,(vB,none)⟩ :: awl_M64
theorem awl_k65:IA jA tA awl_M65:=awl_k64.more 3000 _ (by kernel_rfl)
def awl_M66:List ME:=⟨41,[vD],none,(i0,none)⟩ :: awl_M65
theorem awl_k66:IA jA tA awl_M66:=awl_k65.more 3000 _ (by kernel_rfl)
def awl_M67:List ME:=⟨42,[vD],none,(vu,none)⟩ :: awl_M66
theorem awl_k67:IA jA tA awl_M67:=awl_k66.more 3000 _ (by kernel_rfl)
def awl_M68:List ME:=⟨10,[vD],none,(vn,none)⟩ :: awl_M67
theorem awl_k68:IA jA tA awl_M68:=awl_k67.more 3000 _ (by kernel_rfl)
def awl_M69:List ME:=⟨20,[vD],none,(i0,none)⟩ :: awl_M68
theorem awl_k69:IA jA tA awl_M69:=awl_k68.more 3000 _ (by kernel_rfl)
def awl_M70:List ME:=⟨74,[vv],none,(i0,none)⟩ :: awl_M69
theorem awl_k70:IA jA tA awl_M70:=awl_k69.more 3000 _ (by kernel_rfl)
def awl_M71:List ME:=⟨75,[vv],none,(vB,none)⟩ :: awl_M70
theorem awl_k71:IA jA tA awl_M71:=awl_k70.more 3000 _ (by kernel_rfl)
def awl_M72:List ME:=⟨41,[vv],none,(i0,none)⟩ :: awl_M71
theorem awl_k72:IA jA tA awl_M72:=awl_k71.more 3000 _ (by kernel_rfl)
def awl_M73:List ME:=⟨42,[vv],none,(vu,none)⟩ :: awl_M72
theorem awl_k73:IA jA tA awl_M73:=awl_k72.more 3000 _ (by kernel_rfl)
def awl_M74:List ME:=⟨10,[vv],none,(vn,none)⟩ :: awl_M73
theorem awl_k74:IA jA tA awl_M74:=awl_k73.more 3000 _ (by kernel_rfl)
def awl_M75:List ME:=⟨20,[vv],none,(i0,none)⟩ :: awl_M74
theorem awl_k75:IA jA tA awl_M75:=awl_k74.more 3000 _ (by kernel_rfl)
def awl_M76:List ME:=⟨63,[vD,i0,vv,i0],none,((.sl false [[(i6 1),(i6 1)]]),none)⟩ :: awl_M75
theorem awl_k76:IA jA tA awl_M76:=awl_k75.more 3000 _ (by kernel_rfl)
def awl_M77:List ME:=⟨63,[vD,(i6 1),vv,(i6 1)],none,(n6,none)⟩ :: awl_M76
theorem awl_k77:IA jA tA awl_M77:=awl_k76.more 3000 _ (by kernel_rfl)
def awl_M78:List ME:=⟨64,[(.agg [vj,i0]),vI],none,(vA,none)⟩ :: awl_M77
theorem awl_k78:IA jA tA awl_M78:=awl_k77.more 3000 _ (by kernel_rfl)
def awl_M79:List ME:=⟨62,[vD,i0,vv,i0],none,(i0,none)⟩ :: awl_M78
theorem awl_k79:IA jA tA awl_M79:=awl_k78.more 3000 _ (by kernel_rfl)
def awl_M80:List ME:=⟨62,[vD,(i6 1),vv,(i6 1)],none,((i6 2),none)⟩ :: awl_M79
theorem awl_k80:IA jA tA awl_M80:=awl_k79.more 3000 _ (by kernel_rfl)
def awl_M81:List ME:=⟨34,[(.agg [vj,i0]),vI],none,((.tup [(.sl false [[i0,i0],[(i6 1),(i6 1)]]),(i6 2),i0]),none)⟩ :: awl_M80
theorem awl_k81:IA jA tA awl_M81:=awl_k80.more 3000 _ (by kernel_rfl)
def awl_M82:List ME:=⟨54,[(i6 9),i0],none,((.agg [vl,i0]),none)⟩ :: awl_M81
theorem awl_k82:IA jA tA awl_M82:=awl_k81.more 3000 _ (by kernel_rfl)
def awl_M83:List ME:=⟨74,[vG],none,(i0,none)⟩ :: awl_M82
theorem awl_k83:IA jA tA awl_M83:=awl_k82.more 3000 _ (by kernel_rfl)
def awl_M84:List ME:=⟨75,[vG],none,(vB,none)⟩ :: awl_M83
theorem awl_k84:IA jA tA awl_M84:=awl_k83.more 3000 _ (by kernel_rfl)
def awl_M85:List ME:=⟨41,[vG],none,(i0,none)⟩ :: awl_M84
theorem awl_k85:IA jA tA awl_M85:=awl_k84.more 3000 _ (by kernel_rfl)
def awl_M86:List ME:=⟨42,[vG],none,((.sl false [[(i6 1)],[(i6 2)]]),none)⟩ :: awl_M85
theorem awl_k86:IA jA tA awl_M86:=awl_k85.more 3000 _ (by kernel_rfl)
def awl_M87:List ME:=⟨10,[vG],none,(vn,none)⟩ :: awl_M86
theorem awl_k87:IA jA tA awl_M87:=awl_k86.more 3000 _ (by kernel_rfl)
def awl_M88:List ME:=⟨20,[vG],none,(i0,none)⟩ :: awl_M87
theorem awl_k88:IA jA tA awl_M88:=awl_k87.more 3000 _ (by kernel_rfl)
def awl_M89:List ME:=⟨63,[vG,i0,vv,i0],none,(n6,none)⟩ :: awl_M88
theorem awl_k89:IA jA tA awl_M89:=awl_k88.more 3000 _ (by kernel_rfl)
def awl_M90:List ME:=⟨64,[(.agg [vl,i0]),vI],none,(vp,none)⟩ :: awl_M89
theorem awl_k90:IA jA tA awl_M90:=awl_k89.more 3000 _ (by kernel_rfl)
def awl_M91:List ME:=⟨62,[vG,i0,vv,i0],none,(i0,none)⟩ :: awl_M90
theorem awl_k91:IA jA tA awl_M91:=awl_k90.more 3000 _ (by kernel_rfl)
def awl_M92:List ME:=⟨34,[(.agg [vl,i0]),vI],none,(vE,none)⟩ :: awl_M91
theorem awl_k92:IA jA tA awl_M92:=awl_k91.more 3000 _ (by kernel_rfl)
def awl_M93:List ME:=⟨27,[(.agg [vl,i0]),vI],none,((.tup [t6,i0]),none)⟩ :: awl_M92
theorem awl_k93:IA jA tA awl_M93:=awl_k92.more 3000 _ (by kernel_rfl)
theorem awl_knows:IA jA tA awl_M93:=awl_k93
section
open Go.ChangeShapes Go.WideShapes Go.ChangeAt Go.RowKit
theorem own:ownKnob Tryz.prog.godebug=none:=by kernel_rfl
theorem laidOut:laidOutB Tryz.prog=true:=by kernel_rfl
theorem LZ {H:Type} {enc:TypeId × Value->H} {P:Program} {f:Func} {s:ChangeSpec} {apart fresh tw:Bool} {W W':World} {args:Array Value} {v:Value} {ds gs:List (DataW H)} {before pa pv:List MemPlace}
  (hW:DataW.Whole enc P f.params.toList s.vars apart W args.toList ds gs before)
  (se:∀ (b:Nat) (sp:Nat->Bool) (hd:Bool),DataW.TrodAll enc P W' b sp hd f.resultTypes.toList (v.resultList f.resultTypes.size) (s.fn H (ds++gs)).results [])
  (rd:DataW.TrodAll enc P W' 0 (fun b=>decide (b<W.heap.size)) true f.params.toList args.toList (s.fn H (ds++gs)).args pa)
  (hvars:DataW.TrodVars enc P W' (fun b=>decide (b<W.heap.size)) s.vars (s.fn H (ds++gs)).vars pv)
  (hb:Below W.heap.size W W'):s.post enc P f apart fresh tw false W args v W' :=
 ⟨ds,gs,before,[],pa,pv,hW,se _ _ _,rd,hvars,hb.frame _,fun h=>by cases h⟩
end
abbrev joinA (P:Program) (f:FuncId) (fn:Func) (s:ChangeSpec) (c:OpenClaim):Bool:=(c.wf (OpenSpec.ofChange s)&&laidOutB P&&mapsRowed P&&fn.params.all (P.readableRec ·)&&namedTie P c.named s.vars&&(c.stops == [])&&(P.stops == [])&&(c.knobs == [])&&(P.stopKnobs == []))
abbrev joinB (P:Program) (f:FuncId) (fn:Func) (s:ChangeSpec) (c:OpenClaim):Bool:=((c.inPlace == P.inPlace f)&&(c.unfollowed == P.unfollowed f))
abbrev joinC (P:Program) (f:FuncId) (fn:Func) (s:ChangeSpec) (c:OpenClaim):Bool:=((c.recurses == P.recurses f)&&(c.named == P.varsNamed f))
abbrev joinD (P:Program) (f:FuncId) (fn:Func) (s:ChangeSpec) (c:OpenClaim):Bool:=((c.maps == (fn.params.toList++s.plain.varTypes P).any (P.mapsRec ·))&&(c.ifaces == (fn.params.toList++s.plain.varTypes P).any (P.ifacesRec ·))&&(c.mapsOut == P.mapsAmong fn.resultTypes.toList)&&(c.loops == (fn.params.toList++s.plain.varTypes P).any (P.loopsFrom ·))&&(c.wideKeys == (fn.params.toList++s.plain.varTypes P++fn.resultTypes.toList).any (P.wideKeysFrom ·))&&s.vars.all (P.varReadable ·)&&fn.resultTypes.all (fun t=>P.readableRec t&&decide (t<P.types.size))&&(c.ifacesOut == fn.resultTypes.toList.any (P.ifacesRec ·))&&(c.loopsOut == fn.resultTypes.toList.any (P.loopsFrom ·))&&(c.plainKeys == P.plainKeys)&&c.shortTexts.isNone&&P.stopsHeard)
abbrev joinE (P:Program) (f:FuncId) (fn:Func) (s:ChangeSpec) (c:OpenClaim):Bool:=P.mayEnter
abbrev joinF (P:Program) (f:FuncId) (fn:Func) (s:ChangeSpec) (c:OpenClaim):Bool:=(c.lifted == P.liftsFinal)
abbrev joinG (P:Program) (f:FuncId) (fn:Func) (s:ChangeSpec) (c:OpenClaim):Bool:=((P.make == some c.make)&&(c.kinds == (if c.domain.isEmpty then [] else fn.params.toList.map fun t=>match P.underlying t with | some (.int k)=>some k | _=>none))&&(c.pinned == c.pinnedBy)&&(c.veiled == (fn.params.toList++s.plain.varTypes P++fn.resultTypes.toList).any (P.veiledRec ·))&&c.veiledFits P fn.params.toList (fn.params.toList++s.plain.varTypes P++fn.resultTypes.toList))
theorem joined_of {P:Program} {f:FuncId} {fn:Func} {s:ChangeSpec} {c:OpenClaim} (h1:joinA P f fn s c=true) (h2:joinB P f fn s c=true) (pp:joinC P f fn s c=true) (h3:joinD P f fn s c=true) (h4:joinE P f fn s c=true) (h5:joinF P f fn s c=true) (h6:joinG P f fn s c=true):joinedFacts P f fn s c=true:=by
 have e:joinedFacts P f fn s c=((c.wf (OpenSpec.ofChange s)&&laidOutB P&&mapsRowed P&&fn.params.all (P.readableRec ·)&&namedTie P c.named s.vars&&(c.stops == [])&&(P.stops == [])&&(c.knobs == [])&&(P.stopKnobs == []))&&(((c.inPlace == P.inPlace f)&&(c.unfollowed == P.unfollowed f))&&(((c.recurses == P.recurses f)&&(c.named == P.varsNamed f))&&(((c.maps == (fn.params.toList++s.plain.varTypes P).any (P.mapsRec ·))&&(c.ifaces == (fn.params.toList++s.plain.varTypes P).any (P.ifacesRec ·))&&(c.mapsOut == P.mapsAmong fn.resultTypes.toList)&&(c.loops == (fn.params.toList++s.plain.varTypes P).any (P.loopsFrom ·))&&(c.wideKeys == (fn.params.toList++s.plain.varTypes P++fn.resultTypes.toList).any (P.wideKeysFrom ·))&&s.vars.all (P.varReadable ·)&&fn.resultTypes.all (fun t=>P.readableRec t&&decide (t<P.types.size))&&(c.ifacesOut == fn.resultTypes.toList.any (P.ifacesRec ·))&&(c.loopsOut == fn.resultTypes.toList.any (P.loopsFrom ·))&&(c.plainKeys == P.plainKeys)&&c.shortTexts.isNone&&P.stopsHeard)&&(P.mayEnter&&((c.lifted == P.liftsFinal)&&((P.make == some c.make)&&(c.kinds == (if c.domain.isEmpty then [] else fn.params.toList.map fun t=>match P.underlying t with | some (.int k)=>some k | _=>none))&&(c.pinned == c.pinnedBy)&&(c.veiled == (fn.params.toList++s.plain.varTypes P++fn.resultTypes.toList).any (P.veiledRec ·))&&c.veiledFits P fn.params.toList (fn.params.toList++s.plain.varTypes P++fn.resultTypes.toList)))))))):=by
  simp only [joinedFacts,Bool.and_assoc];rfl
 dsimp only [joinA,joinB,joinC,joinD,joinE,joinF,joinG] at h1 h2 pp h3 h4 h5 h6;rw [e,h1,h2,pp,h3,h4,h5,h6];rfl
end Go.Proofs.YtbhbeakhognieaaGreat
