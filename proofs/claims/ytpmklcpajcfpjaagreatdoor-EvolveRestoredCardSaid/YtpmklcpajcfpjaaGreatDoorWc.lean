/- A part of the proof. -/
import Derived.Test.YtpmklcpajcfpjaaGreatDoorWb
import Derived.SizedLaws
import Derived.ProofKit
import Derived.JoinedCond
set_option linter.all false
set_option maxRecDepth 100000
set_option maxHeartbeats 8000000
open Option renaming bind_some → J, bind_eq_some_iff → yh, map_eq_some_iff → yq
open List renaming length_map → yc, all_eq_true → ye, getElem?_eq_getElem → yf, length_append → yj, getElem?_map → yk, getElem?_eq_some_iff → yn, mem_cons_self → yo, mem_cons_of_mem → yp, mem_of_getElem? → yr, mem_cons → yt, mem_append → yu, drop_eq_getElem_cons → yv, drop_eq_nil_of_le → yw, append_assoc → yx, length_take → yz, flatten_cons → yA, getElem_mem → yC, mem_map → yD, map_congr_left → yE, length_cons → yG, mem_singleton → yU, map_append → Y03, drop_zero → Y05, take_of_length_le → Y0b, take_append_drop → Y0c, getElem_of_mem → Y0k
open Bool renaming and_eq_true → yg
open Nat renaming le_refl → yl, zero_add → yy, le_trans → yH, succ_mul → yN, mul_le_mul_right → Y0e
namespace Go.Proofs.YtpmklcpajcfpjaaGreatDoor
open Go
def GH:FD:=⟨(oR [oQ 2 1 0,oS 4 (.mv (.c (.sl true []))),oJ 5 0] (oR [oA 10 1 2,oM 11 1,oC2 12 8 10 11,oM 9 12,oX 13 9 0,oX 14 9 1,oX 15 9 2,oS 6 (.alloc [(.sl true [])]),oV 1 6 13,oM 7 14,oM 8 15] (.seq (oR [oM 16 8,oC 17 .neq 16 0] (oD 17 (oR [oM 18 8,oS 4 (.mv (.c (.sl true []))),oM 5 18] .ret) .skip)) (oR [oA 19 1 6,oA 20 1 2,oC2 21 6 19 20,oX 22 21 0,oX 23 21 1,oM 4 22,oM 5 23] .ret)))),[(.tmp 4),(.tmp 5)],2,[]⟩
theorem kQ:gD Tryz.prog 9 GH:=okF Tryz.func9
noncomputable def xR:FD:=cF [] Tryz.f13
theorem fX:gD Tryz.prog 13 xR:=okF Tryz.func13
noncomputable def qY:FD:=cF [] Tryz.f14
theorem W6:gD Tryz.prog 14 qY:=okF Tryz.func14
def pG:C:=oR [oB 41 .lss 40 39] (.seq (oD 41 .skip (.exit 2)) (.seq (.block 3 (oR [oI 42 1 38 40,oL 43 42,oM 7 43] (oR [oM 44 7,oC 45 .lss 44 0,oM 46 45,oMg 47 7 46 false,oFg 48 0 1 46 false,oP 49 48 46 false,oHg 50 49 46 false,oBg 51 .geq 47 50 46 false,oPo 52 46 51] (oD 52 (oR [oJ 2 4] .ret) .skip)))) (.reg [oC 53 .add 40 1,oM 40 53])))
def jE:C:=oR [oB 17 .lss 16 15] (.seq (oD 17 .skip (.exit 0)) (.seq (.block 1 (oR [oI 18 10 14 16,oA 19 10 18,oY 5 zzb,oV 10 5 19] (.seq (oR [oA 20 10 5,oC1 21 44 20,oU 22 21,oM 23 22,oFg 24 1 5 23 false,oP 25 24 23 false,oG 26 (.bin .neq false (.t 25) (.c (.str (ByteArray.mk #[])))) 23 false,oMg 27 26 23 false,oMg 28 3 27 true,oFg 29 1 5 27 true,oP 30 29 27 true,oG 31 (.LB false .none (.bool false) (.t 28) (.t 30)) 27 true,oPb 32 27 31 23 false,oPo 33 23 32] (oD 33 (oR [oJ 2 1] .ret) .skip)) (oR [oM 34 3,oF 35 1 5,oL 36 35,oN (.HB .none (.t 34) (.t 36) (.c (.bool true)))] (.seq (oR [oA 37 10 5,oC1 38 45 37,oH 39 38,oJ 40 0] (.block 2 (.loop pG))) (oR [oF 54 0 5,oL 55 54,oC 56 .eql 55 8,oM 57 56,oFg 58 0 1 57 true,oP 59 58 57 true,oFg 60 7 5 57 true,oP 61 60 57 true,oIg 62 10 59 61 57 true,oFg 63 0 62 57 true,oP 64 63 57 true,oCi 65 .lss 64 1 57 true,oMg 66 65 57 true,oFg 67 0 1 66 false,oP 68 67 66 false,oFg 69 7 5 66 false,oP 70 69 66 false,oIg 71 10 68 70 66 false,oFg 72 0 71 66 false,oP 73 72 66 false,oCi 74 .gtr 73 4 66 false,oG 75 (.pick (.t 66) (.c (.bool true)) (.t 74)) 57 true,oPa 76 57 75] (oD 76 (oR [oJ 2 1] .ret) .skip))))))) (.reg [oC 77 .add 16 1,oM 16 77])))
def xJ:FD:=⟨(oR [oQ 1 1 0,oJ 2 0] (.seq (oR [oF 8 0 1,oL 9 8,oH 10 9,oC 11 .gtr 10 32] (oD 11 (oR [oJ 2 3] .ret) .skip)) (oR [oS 12 (.OC),oM 3 12] (.seq (oR [oF 13 0 1,oL 14 13,oH 15 14,oJ 16 0] (.block 0 (.loop jE))) (oR [oJ 2 0] .ret))))),[(.tmp 2)],1,[]⟩
theorem DY:gD Tryz.prog 19 xJ:=okF Tryz.func19
def TI:C:=oR [oB 43 .lss 42 41] (.seq (oD 43 .skip (.exit 2)) (.seq (.block 3 (oR [oM 44 42,oM 6 44] (.reg [oM 45 5,oK 46 45,oF 47 6 46,oL 48 47,oM 49 6,oM 50 5,oK 51 50,oF 52 6 51,oL 53 52,oM 54 6,oI 55 13 53 54,oF 56 5 55,oA 57 8 56,oC1 58 26 57,oI 59 13 48 49,oF 60 5 59,oV 8 60 58]))) (.reg [oC 61 .add 42 1,oM 42 61])))
def xH:C:=oR [oB 15 .lss 14 13] (.seq (oD 15 .skip (.exit 0)) (.seq (.block 1 (oR [oM 16 14,oM 4 16] (oR [oF 17 0 3,oL 18 17,oM 19 4,oI 20 10 18 19,oM 5 20] (oR [oM 21 5,oM 22 5,oK 23 22,oF 24 5 23,oL 25 24,oS 26 (.LA .any 55 2 [(.t 25)]),oK 27 21,oF 28 5 27,oW 28 26] (oR [oM 29 5,oM 30 5,oK 31 30,oF 32 6 31,oL 33 32,oS 34 (.LA .any 56 13 [(.t 33)]),oK 35 29,oF 36 6 35,oW 36 34] (oR [oM 37 5,oK 38 37,oF 39 6 38,oL 40 39,oH 41 40,oJ 42 0] (.block 2 (.loop TI)))))))) (.reg [oC 62 .add 14 1,oM 14 62])))
def HH:FD:=⟨(oR [oQ 1 1 0,oS 2 (.alloc [(.sl true [])])] (oR [oF 7 0 1,oL 8 7,oS 9 (.LA .any 54 10 [(.t 8)]),oS 10 (.build [(.sl true [])] [(0,(1,(.t 9)))]),oS 3 (.alloc [(.sl true [])]),oV 1 3 10] (.seq (oR [oF 11 0 3,oL 12 11,oH 13 12,oJ 14 0] (.block 0 (.loop xH))) (oR [oA 63 1 3,oV 1 2 63] .ret)))),[(.cell 2 true 1)],1,[10000000+54,10000000+55,10000000+56]⟩
theorem zQ:gD Tryz.prog 25 HH:=okF Tryz.func25
def uJ:C:=oR [oB 38 .lss 37 36] (.seq (oD 38 .skip (.exit 2)) (.seq (.block 3 (oR [oM 39 37,oM 4 39] (.reg [oF 40 6 1,oLr 41 1 1 40,oM 42 4,oF 43 6 1,oLr 44 1 1 43,oM 45 4,oI 46 8 44 45,oA 47 8 46,oC1 48 26 47,oI 49 8 41 42,oV 8 49 48]))) (.reg [oC 50 .add 37 1,oM 37 50])))
def iJ:C:=oR [oB 21 .lss 20 19] (.seq (oD 21 .skip (.exit 0)) (.seq (.block 1 (oR [oM 22 20,oM 3 22] (.reg [oF 23 5 1,oLr 24 1 1 23,oM 25 3,oF 26 5 1,oLr 27 1 1 26,oM 28 3,oI 29 8 27 28,oA 30 8 29,oC1 31 26 30,oI 32 8 24 25,oV 8 32 31]))) (.reg [oC 33 .add 20 1,oM 20 33])))
def lJ:FD:=⟨(oR [oQ 1 8 0,oY 2 zzc] (oR [oF 5 5 1,oLr 6 1 1 5,oS 7 (.LA .any 57 8 [(.t 6)]),oF 8 6 1,oLr 9 1 1 8,oS 10 (.LA .any 57 8 [(.t 9)]),oF 11 7 1,oLr 12 1 1 11,oS 13 (.LA .any 58 2 [(.t 12)]),oF 14 5 1,oN (.store (.root 1) false 1 (.t 14) (.t 7)),oF 15 6 1,oN (.store (.root 1) false 1 (.t 15) (.t 10)),oF 16 7 1,oN (.store (.root 1) false 1 (.t 16) (.t 13))] (.seq (oR [oF 17 5 1,oL 18 17,oH 19 18,oJ 20 0] (.block 0 (.loop iJ))) (.seq (oR [oF 34 6 1,oL 35 34,oH 36 35,oJ 37 0] (.block 2 (.loop uJ))) (oR [oA 51 8 1,oV 8 2 51] .ret))))),[(.cell 2 true 8)],1,[10000000+57,10000000+58]⟩
theorem SR:gD Tryz.prog 26 lJ:=okF Tryz.func26
def RE:FD:=⟨(oR [oQ 3 25 1,oJ 4 0] (.seq (oR [oF 12 1 3,oLr 13 3 1 12,oC 14 .lss 13 0,oM 15 14,oFg 16 1 3 15 false,oG 17 (.load (.root 3) false 1 (.t 16)) 15 false,oMg 18 0 15 false,oG 19 (.WA (.t 18)) 15 false,oFg 20 0 19 15 false,oP 21 20 15 false,oHg 22 21 15 false,oBg 23 .geq 17 22 15 false,oPo 24 15 23] (oD 24 (oR [oJ 4 4] .ret) .skip)) (oR [oM 25 0,oK 26 25,oF 27 0 26,oS 28 (.load (.out [3,5,5]) false 1 (.t 27)),oF 29 1 3,oLr 30 3 1 29,oI 31 10 28 30,oY 5 [.EA],oN (.store (.root 5) false 1 (.t 5) (.t 31))] (.seq (oR [oF 32 0 3,oLr 33 3 1 32,oLr 34 5 1 5,oK 35 34,oF 36 0 35,oL 37 36,oS 38 (.bA .any 59 [(.t 33),(.t 37)]),oU 39 38] (oD 39 (oR [oJ 4 1] .ret) .skip)) (.seq (oR [oF 40 0 3,oL 41 40] (.block 0 (oR [oC 43 .eql 41 1,oM 42 43] (oD 42 (.seq (oR [oLr 44 5 1 5,oK 45 44,oA 46 10 45,oF 47 4 3,oF 48 0 47,oLr 49 3 1 48,oS 50 (.bA .any 46 [(.t 46),(.t 49)]),oC 51 .geq 50 0] (oD 51 (oR [oJ 4 5] .ret) .skip)) (oR [oL 52 5,oK 53 52,oF 54 6 53,oL 55 54,oH 56 55,oS 57 (.zC 61 [(.t 5),(.t 3)]),oS 58 (.mA 225 (.c (.fn 60 [])) [(.t 56),(.t 57)]),oM 6 58] (.reg [oLr 59 5 1 5,oLr 60 5 1 5,oK 61 60,oF 62 6 61,oL 63 62,oM 64 6,oF 65 4 3,oS 66 (.load (.root 3) true 13 (.t 65)),oS 67 (.IA zzd 1 [(0,(.t 66))]),oS 68 (.nA .any 62 13 [3,5] (.t 63) [(.t 64),(.t 67)]),oK 69 59,oF 70 6 69,oN (.store (.out [3,5]) false 1 (.t 70) (.t 68))]))) (oR [oC 72 .eql 41 2,oM 71 72] (oD 71 (oR [oLr 73 5 1 5,oK 74 73,oA 75 10 74,oF 76 2 3,oLr 77 3 1 76,oS 78 (.bA .any 46 [(.t 75),(.t 77)]),oM 7 78] (.seq (oR [oM 79 7,oC 80 .lss 79 0] (oD 80 (oR [oJ 4 4] .ret) .skip)) (.reg [oLr 81 5 1 5,oLr 82 5 1 5,oK 83 82,oF 84 6 83,oL 85 84,oM 86 7,oM 87 7,oC 88 .add 87 1,oS 89 (.nA .any 63 13 [3,5] (.t 85) [(.t 86),(.t 88)]),oK 90 81,oF 91 6 90,oN (.store (.out [3,5]) false 1 (.t 91) (.t 89))]))) (oR [oC 93 .eql 41 3,oM 92 93] (oD 92 (oR [oLr 94 5 1 5,oK 95 94,oA 96 10 95,oF 97 4 3,oF 98 0 97,oLr 99 3 1 98,oS 100 (.bA .any 46 [(.t 96),(.t 99)]),oM 8 100] (.seq (oR [oM 101 8,oC 102 .lss 101 0] (oD 102 (oR [oJ 4 4] .ret) .skip)) (.reg [oLr 103 5 1 5,oK 104 103,oF 105 6 104,oL 106 105,oM 107 8,oF 108 4 3,oS 109 (.load (.root 3) true 13 (.t 108)),oI 110 13 106 107,oN (.store (.out [3,5]) true 13 (.t 110) (.t 109))]))) (oR [oC 112 .eql 41 4,oM 111 112] (oD 111 (.seq (oR [oLr 113 5 1 5,oK 114 113,oA 115 10 114,oF 116 17 3,oF 117 0 116,oLr 118 3 1 117,oS 119 (.bA .any 48 [(.t 115),(.t 118)]),oM 9 119] (oR [oM 120 9,oC 121 .geq 120 0] (oD 121 (oR [oLr 122 5 1 5,oK 123 122,oF 124 5 123,oL 125 124,oM 126 9,oF 127 17 3,oF 128 1 127,oLr 129 3 1 128,oI 130 2 125 126,oF 131 1 130,oN (.store (.out [3,5]) false 1 (.t 131) (.t 129))] (oR [oJ 4 0] .ret)) .skip))) (oR [oL 132 5,oK 133 132,oF 134 5 133,oL 135 134,oH 136 135,oS 137 (.zC 64 [(.t 5),(.t 3)]),oS 138 (.mA 225 (.c (.fn 60 [])) [(.t 136),(.t 137)]),oM 10 138] (.reg [oLr 139 5 1 5,oLr 140 5 1 5,oK 141 140,oF 142 5 141,oL 143 142,oM 144 10,oF 145 17 3,oS 146 (.load (.root 3) true 2 (.t 145)),oS 147 (.IA zze 1 [(0,(.t 146))]),oS 148 (.nA .any 65 2 [3,5] (.t 143) [(.t 144),(.t 147)]),oK 149 139,oF 150 5 149,oN (.store (.out [3,5]) false 1 (.t 150) (.t 148))]))) (oR [oC 152 .eql 41 5,oM 151 152] (oD 151 (oR [oLr 153 5 1 5,oK 154 153,oA 155 10 154,oF 156 2 3,oLr 157 3 1 156,oS 158 (.bA .any 48 [(.t 155),(.t 157)]),oM 11 158] (.seq (oR [oM 159 11,oC 160 .lss 159 0] (oD 160 (oR [oJ 4 4] .ret) .skip)) (.reg [oLr 161 5 1 5,oLr 162 5 1 5,oK 163 162,oF 164 5 163,oL 165 164,oM 166 11,oM 167 11,oC 168 .add 167 1,oS 169 (.nA .any 66 2 [3,5] (.t 165) [(.t 166),(.t 168)]),oK 170 161,oF 171 5 170,oN (.store (.out [3,5]) false 1 (.t 171) (.t 169))]))) (oR [oC 173 .eql 41 6,oM 172 173] (oD 172 (.reg [oL 174 5,oF 175 3 3,oL 176 175,oK 177 174,oF 178 1 177,oW 178 176]) (oR [oC 180 .eql 41 7,oM 179 180] (oD 179 (oR [oL 181 5,oK 182 181,oF 183 0 182,oL 184 183,oC 185 .eql 184 2] (oD 185 (.reg [oLr 186 5 1 5,oLr 187 5 1 5,oF 188 19 3,oLr 189 3 1 188,oF 190 20 3,oLr 191 3 1 190,oK 192 186,oF 193 2 192,oN (.store (.out [3,5]) false 1 (.t 193) (.t 189)),oK 194 187,oF 195 3 194,oN (.store (.out [3,5]) false 1 (.t 195) (.t 191))]) (.reg [oL 196 5,oF 197 21 3,oL 198 197,oK 199 196,oF 200 4 199,oW 200 198]))) (oR [oC 202 .eql 41 8,oM 201 202] (oD 201 (.reg [oL 203 5,oF 204 22 3,oL 205 204,oK 206 203,oF 207 9 206,oW 207 205]) (oR [oC 209 .eql 41 9,oM 208 209] (oD 208 (oR [oL 210 5,oF 211 24 3,oL 212 211,oK 213 210,oF 214 8 213,oW 214 212] (oR [oL 215 5,oK 216 215,oF 217 0 216,oL 218 217,oC 219 .eql 218 8] (oD 219 (.reg [oL 220 5,oF 221 23 3,oL 222 221,oK 223 220,oF 224 7 223,oW 224 222]) .skip))) .skip)))))))))))))))))))) (oR [oJ 4 0] .ret)))))),[(.tmp 4)],2,[6000000,7000000,1000000+60,20000000+62,20000000+63,20000000+65,20000000+66,30000000+46,30000000+48,30000000+59]⟩
theorem lQ:gD Tryz.prog 27 RE:=okF Tryz.func27
def gH:C:=.seq (oR [oM 48 7,oM 49 6,oH 50 49,oB 51 .lss 48 50] (oD 51 .skip (.exit 4))) (.seq (.block 5 (oR [oM 54 6,oM 55 7,oI 56 1 54 55,oL 57 56,oC 58 .lss 57 0,oM 59 58,oMg 60 6 59 false,oMg 61 7 59 false,oIg 62 1 60 61 59 false,oP 63 62 59 false,oFg 64 0 1 59 false,oP 65 64 59 false,oHg 66 65 59 false,oBg 67 .geq 63 66 59 false,oPo 68 59 67] (oD 68 (oR [oJ 2 4] .ret) .skip))) (.reg [oM 52 7,oC 53 .add 52 1,oM 7 53]))
def EG:C:=.seq (oR [oM 27 5,oM 28 3,oB 29 .lss 27 28] (oD 29 .skip (.exit 2))) (.seq (.block 3 (oR [oF 32 0 4,oL 33 32,oC1 34 30 33,oM 35 34,oFg 36 0 1 35 true,oP 37 36 35 true,oMg 38 5 35 true,oIg 39 10 37 38 35 true,oFg 40 1 39 35 true,oP 41 40 35 true,oFg 42 1 4 35 true,oP 43 42 35 true,oBg 44 .eql 41 43 35 true,oPa 45 35 44] (oD 45 (oR [oJ 2 1] .ret) .skip))) (.reg [oM 30 5,oC 31 .add 30 1,oM 5 31]))
def SJ:C:=.seq (oR [oM 12 3,oF 13 0 1,oL 14 13,oH 15 14,oB 16 .lss 12 15] (oD 16 .skip (.exit 0))) (.seq (.block 1 (oR [oF 19 0 1,oL 20 19,oM 21 3,oI 22 10 20 21,oA 23 10 22,oY 4 zzb,oV 10 4 23] (.seq (oR [oA 24 10 4,oC1 25 49 24,oU 26 25] (oD 26 (oR [oJ 2 1] .ret) .skip)) (.seq (oR [oJ 5 0] (.block 2 (.loop EG))) (oR [oA 46 10 4,oC1 47 50 46,oM 6 47] (.seq (oR [oJ 7 0] (.block 4 (.loop gH))) (oR [oF 69 0 4,oL 70 69,oC 71 .eql 70 8,oM 72 71,oFg 73 0 1 72 true,oP 74 73 72 true,oFg 75 7 4 72 true,oP 76 75 72 true,oIg 77 10 74 76 72 true,oFg 78 0 77 72 true,oP 79 78 72 true,oG 80 (.call .any 51 [(.t 79)]) 72 true,oUg 81 80 72 true,oPa 82 72 81] (oD 82 (oR [oJ 2 1] .ret) .skip)))))))) (.reg [oM 17 3,oC 18 .add 17 1,oM 3 18]))
def pK:FD:=⟨(oR [oQ 1 1 0,oJ 2 0] (.seq (oR [oF 8 0 1,oL 9 8,oH 10 9,oC 11 .gtr 10 32] (oD 11 (oR [oJ 2 3] .ret) .skip)) (.seq (oR [oJ 3 0] (.block 0 (.loop SJ))) (oR [oJ 2 0] .ret)))),[(.tmp 2)],1,[]⟩
theorem D0:gD Tryz.prog 23 pK:=okF Tryz.func23
def rH:C:=.seq (oR [oM 97 6,oF 98 6 2,oL 99 98,oH 100 99,oB 101 .lss 97 100] (oD 101 .skip (.exit 2))) (.seq (.block 3 (oR [oF 104 6 2,oL 105 104,oM 106 6,oI 107 13 105 106,oA 108 13 107,oF 109 6 3,oL 110 109,oM 111 6,oI 112 13 110 111,oA 113 13 112,oC2 114 67 108 113,oU 115 114] (oD 115 (oR [oZ 4 false] .ret) .skip))) (.reg [oM 102 6,oC 103 .add 102 1,oM 6 103]))
def kG:C:=.seq (oR [oM 79 5,oF 80 5 2,oL 81 80,oH 82 81,oB 83 .lss 79 82] (oD 83 .skip (.exit 0))) (.seq (.block 1 (oR [oF 86 5 2,oL 87 86,oM 88 5,oI 89 2 87 88,oA 90 2 89,oF 91 5 3,oL 92 91,oM 93 5,oI 94 2 92 93,oA 95 2 94,oS 96 (.QC true [0,1] (.t 90) (.t 95))] (oD 96 (oR [oZ 4 false] .ret) .skip))) (.reg [oM 84 5,oC 85 .add 84 1,oM 5 85]))
def JD:FD:=⟨(oR [oQ 2 10 0,oQ 3 10 1,oZ 4 false] (.seq (oR [oF 7 0 2,oL 8 7,oF 9 0 3,oL 10 9,oB 11 .neq 8 10,oM 12 11,oFg 13 1 2 12 false,oP 14 13 12 false,oFg 15 1 3 12 false,oP 16 15 12 false,oBg 17 .neq 14 16 12 false,oPo 18 12 17,oM 19 18,oFg 20 2 2 19 false,oP 21 20 19 false,oFg 22 2 3 19 false,oP 23 22 19 false,oBg 24 .neq 21 23 19 false,oPo 25 19 24,oM 26 25,oFg 27 3 2 26 false,oP 28 27 26 false,oFg 29 3 3 26 false,oP 30 29 26 false,oBg 31 .neq 28 30 26 false,oPo 32 26 31,oM 33 32,oFg 34 4 2 33 false,oP 35 34 33 false,oFg 36 4 3 33 false,oP 37 36 33 false,oBg 38 .neq 35 37 33 false,oPo 39 33 38,oM 40 39,oFg 41 7 2 40 false,oP 42 41 40 false,oFg 43 7 3 40 false,oP 44 43 40 false,oBg 45 .neq 42 44 40 false,oPo 46 40 45,oM 47 46,oFg 48 8 2 47 false,oP 49 48 47 false,oFg 50 8 3 47 false,oP 51 50 47 false,oBg 52 .neq 49 51 47 false,oPo 53 47 52,oM 54 53,oFg 55 9 2 54 false,oP 56 55 54 false,oFg 57 9 3 54 false,oP 58 57 54 false,oG 59 (.bin .neq true (.t 56) (.t 58)) 54 false,oPo 60 54 59,oM 61 60,oFg 62 5 2 61 false,oP 63 62 61 false,oHg 64 63 61 false,oFg 65 5 3 61 false,oP 66 65 61 false,oHg 67 66 61 false,oBg 68 .neq 64 67 61 false,oPo 69 61 68,oM 70 69,oFg 71 6 2 70 false,oP 72 71 70 false,oHg 73 72 70 false,oFg 74 6 3 70 false,oP 75 74 70 false,oHg 76 75 70 false,oBg 77 .neq 73 76 70 false,oPo 78 70 77] (oD 78 (oR [oZ 4 false] .ret) .skip)) (.seq (oR [oJ 5 0] (.block 0 (.loop kG))) (.seq (oR [oJ 6 0] (.block 2 (.loop rH))) (oR [oZ 4 true] .ret))))),[(.tmp 4)],2,[]⟩
theorem aW:gD Tryz.prog 28 JD:=okF Tryz.func28
def OE:C:=oR [oB 18 .lss 17 16] (.seq (oD 18 .skip (.exit 0)) (.seq (.block 1 (oR [oM 19 17,oI 20 10 15 17,oA 21 10 20,oY 8 zzb,oM 7 19,oV 10 8 21] (oR [oM 22 1,oM 23 7,oI 24 10 22 23,oA 25 10 24,oY 9 zzb,oV 10 9 25] (oR [oM 26 2,oA 27 10 8,oA 28 10 9,oS 29 (.JA .any (.t 26) [(.t 27),(.t 28)]),oU 30 29] (oD 30 (oR [oZ 6 false] .ret) .skip))))) (.reg [oC 31 .add 17 1,oM 17 31])))
def wF:FD:=⟨(oR [oZ 6 false] (.seq (oR [oM 10 0,oH 11 10,oM 12 1,oH 13 12,oB 14 .neq 11 13] (oD 14 (oR [oZ 6 false] .ret) .skip)) (.seq (oR [oM 15 0,oH 16 15,oJ 17 0] (.block 0 (.loop OE))) (oR [oZ 6 true] .ret)))),[(.tmp 6)],3,[]⟩
theorem eN:gD Tryz.prog 20 wF:=okF Tryz.func20
def PJ:FD:=⟨(oR [oQ 2 10 0,oQ 3 10 1,oZ 4 false] (oR [oF 5 0 2,oL 6 5,oF 7 0 3,oL 8 7,oB 9 .eql 6 8,oM 4 9] .ret)),[(.tmp 4)],2,[]⟩
theorem qW:gD Tryz.prog 21 PJ:=okF Tryz.func21
def cH:C:=oR [oB 240 .lss 239 238] (.seq (oD 240 .skip (.exit 12)) (.seq (.block 13 (oR [oM 241 239,oM 22 241] (.reg [oM 242 7,oM 243 22,oM 244 7,oM 245 22,oI 246 25 244 245,oF 247 4 246,oF 248 5 247,oA 249 8 248,oC1 250 26 249,oI 251 25 242 243,oF 252 4 251,oF 253 5 252,oV 8 253 250]))) (.reg [oC 254 .add 239 1,oM 239 254])))
def JF:C:=oR [oB 222 .lss 221 220] (.seq (oD 222 .skip (.exit 10)) (.seq (.block 11 (oR [oI 223 2 219 221,oA 224 2 223,oY 21 zze,oV 2 21 224] (oR [oA 225 10 4,oF 226 0 21,oL 227 226,oC2 228 48 225 227,oC 229 .lss 228 0] (oD 229 (.reg [oM 230 7,oM 231 0,oA 232 2 21,oS 233 (.build zza [(0,(1,(.c (.int .i64 4)))),(1,(1,(.t 231))),(17,(2,(.t 232)))]),oS 234 (.IA zza 1 [(0,(.t 233))]),oS 235 (.RA .any 54 25 272 (.t 230) (.t 234)),oM 7 235]) .skip)))) (.reg [oC 236 .add 221 1,oM 221 236])))
def fF:C:=oR [oB 191 .lss 190 189] (.seq (oD 191 .skip (.exit 8)) (.seq (.block 9 (oR [oI 192 2 188 190,oA 193 2 192,oY 18 zze,oV 2 18 193] (oR [oA 194 10 4,oF 195 0 18,oL 196 195,oC2 197 48 194 196,oM 19 197] (oR [oM 198 19,oC 199 .geq 198 0,oM 200 199,oFg 201 5 4 200 true,oG 202 (.load (.root 4) false 1 (.t 201)) 200 true,oMg 203 19 200 true,oIg 204 2 202 203 200 true,oFg 205 1 204 200 true,oP 206 205 200 true,oFg 207 1 18 200 true,oG 208 (.load (.root 18) false 1 (.t 207)) 200 true,oBg 209 .neq 206 208 200 true,oPa 210 200 209] (oD 210 (.reg [oM 211 7,oM 212 0,oA 213 2 18,oS 214 (.build zza [(0,(1,(.c (.int .i64 4)))),(1,(1,(.t 212))),(17,(2,(.t 213)))]),oS 215 (.IA zza 1 [(0,(.t 214))]),oS 216 (.RA .any 54 25 272 (.t 211) (.t 215)),oM 7 216]) .skip))))) (.reg [oC 217 .add 190 1,oM 190 217])))
def KF:C:=oR [oB 171 .lss 170 169] (.seq (oD 171 .skip (.exit 6)) (.seq (.block 7 (oR [oI 172 2 168 170,oA 173 2 172,oY 16 zze,oV 2 16 173] (oR [oA 174 10 5,oF 175 0 16,oL 176 175,oC2 177 48 174 176,oC 178 .lss 177 0] (oD 178 (.reg [oM 179 7,oM 180 0,oF 181 0 16,oL 182 181,oS 183 (.build zza [(0,(1,(.c (.int .i64 5)))),(1,(1,(.t 180))),(2,(1,(.t 182)))]),oS 184 (.IA zza 1 [(0,(.t 183))]),oS 185 (.RA .any 54 25 272 (.t 179) (.t 184)),oM 7 185]) .skip)))) (.reg [oC 186 .add 170 1,oM 170 186])))
def LF:C:=oR [oB 152 .lss 151 150] (.seq (oD 152 .skip (.exit 4)) (.seq (.block 5 (oR [oI 153 13 149 151,oA 154 13 153,oY 14 zzd,oV 13 14 154] (oR [oA 155 10 4,oF 156 0 14,oL 157 156,oC2 158 46 155 157,oC 159 .lss 158 0] (oD 159 (.reg [oM 160 7,oM 161 0,oA 162 13 14,oS 163 (.build zza [(0,(1,(.c (.int .i64 1)))),(1,(1,(.t 161))),(4,(13,(.t 162)))]),oS 164 (.IA zza 1 [(0,(.t 163))]),oS 165 (.RA .any 54 25 272 (.t 160) (.t 164)),oM 7 165]) .skip)))) (.reg [oC 166 .add 151 1,oM 151 166])))
def gF:C:=oR [oB 122 .lss 121 120] (.seq (oD 122 .skip (.exit 2)) (.seq (.block 3 (oR [oI 123 13 119 121,oA 124 13 123,oY 11 zzd,oV 13 11 124] (oR [oA 125 10 4,oF 126 0 11,oL 127 126,oC2 128 46 125 127,oM 12 128] (oR [oM 129 12,oC 130 .geq 129 0,oM 131 130,oFg 132 6 4 131 true,oG 133 (.load (.root 4) false 1 (.t 132)) 131 true,oMg 134 12 131 true,oIg 135 13 133 134 131 true,oLg 136 13 135 131 true,oG 137 (.load (.root 11) true 13 (.t 11)) 131 true,oCg 138 47 136 137 131 true,oUg 139 138 131 true,oPa 140 131 139] (oD 140 (.reg [oM 141 7,oM 142 0,oA 143 13 11,oS 144 (.build zza [(0,(1,(.c (.int .i64 3)))),(1,(1,(.t 142))),(4,(13,(.t 143)))]),oS 145 (.IA zza 1 [(0,(.t 144))]),oS 146 (.RA .any 54 25 272 (.t 141) (.t 145)),oM 7 146]) .skip))))) (.reg [oC 147 .add 121 1,oM 121 147])))
def ZF:C:=oR [oB 102 .lss 101 100] (.seq (oD 102 .skip (.exit 0)) (.seq (.block 1 (oR [oI 103 13 99 101,oA 104 13 103,oY 9 zzd,oV 13 9 104] (oR [oA 105 10 5,oF 106 0 9,oL 107 106,oC2 108 46 105 107,oC 109 .lss 108 0] (oD 109 (.reg [oM 110 7,oM 111 0,oF 112 0 9,oL 113 112,oS 114 (.build zza [(0,(1,(.c (.int .i64 2)))),(1,(1,(.t 111))),(2,(1,(.t 113)))]),oS 115 (.IA zza 1 [(0,(.t 114))]),oS 116 (.RA .any 54 25 272 (.t 110) (.t 115)),oM 7 116]) .skip)))) (.reg [oC 117 .add 101 1,oM 101 117])))
def JH:FD:=⟨(oR [oQ 4 10 1,oQ 5 10 2,oS 6 (.mv (.c (.sl true [])))] (oR [oS 7 (.mv (.c (.sl true [])))] (.seq (oR [oF 23 1 4,oL 24 23,oF 25 1 5,oL 26 25,oB 27 .neq 24 26] (oD 27 (.reg [oM 28 7,oM 29 0,oF 30 1 5,oL 31 30,oS 32 (.build zza [(0,(1,(.c (.int .i64 6)))),(1,(1,(.t 29))),(3,(1,(.t 31)))]),oS 33 (.IA zza 1 [(0,(.t 32))]),oS 34 (.RA .any 54 25 272 (.t 28) (.t 33)),oM 7 34]) .skip)) (.seq (oR [oF 35 2 4,oL 36 35,oF 37 2 5,oL 38 37,oB 39 .neq 36 38,oM 40 39,oFg 41 3 4 40 false,oP 42 41 40 false,oFg 43 3 5 40 false,oP 44 43 40 false,oBg 45 .neq 42 44 40 false,oPo 46 40 45,oM 47 46,oFg 48 4 4 47 false,oP 49 48 47 false,oFg 50 4 5 47 false,oP 51 50 47 false,oBg 52 .neq 49 51 47 false,oPo 53 47 52] (oD 53 (.reg [oM 54 7,oM 55 0,oF 56 2 5,oL 57 56,oF 58 3 5,oL 59 58,oF 60 4 5,oL 61 60,oS 62 (.build zza [(0,(1,(.c (.int .i64 7)))),(1,(1,(.t 55))),(19,(1,(.t 57))),(20,(1,(.t 59))),(21,(1,(.t 61)))]),oS 63 (.IA zza 1 [(0,(.t 62))]),oS 64 (.RA .any 54 25 272 (.t 54) (.t 63)),oM 7 64]) .skip)) (.seq (oR [oF 65 9 4,oL 66 65,oF 67 9 5,oL 68 67,oS 69 (.bin .neq true (.t 66) (.t 68))] (oD 69 (.reg [oM 70 7,oM 71 0,oF 72 9 5,oL 73 72,oS 74 (.build zza [(0,(1,(.c (.int .i64 8)))),(1,(1,(.t 71))),(22,(1,(.t 73)))]),oS 75 (.IA zza 1 [(0,(.t 74))]),oS 76 (.RA .any 54 25 272 (.t 70) (.t 75)),oM 7 76]) .skip)) (.seq (oR [oF 77 7 4,oL 78 77,oF 79 7 5,oL 80 79,oB 81 .neq 78 80,oM 82 81,oFg 83 8 4 82 false,oP 84 83 82 false,oFg 85 8 5 82 false,oP 86 85 82 false,oBg 87 .neq 84 86 82 false,oPo 88 82 87] (oD 88 (.reg [oM 89 7,oM 90 0,oF 91 7 5,oL 92 91,oF 93 8 5,oL 94 93,oS 95 (.build zza [(0,(1,(.c (.int .i64 9)))),(1,(1,(.t 90))),(23,(1,(.t 92))),(24,(1,(.t 94)))]),oS 96 (.IA zza 1 [(0,(.t 95))]),oS 97 (.RA .any 54 25 272 (.t 89) (.t 96)),oM 7 97]) .skip)) (.seq (oR [oF 98 6 4,oL 99 98,oH 100 99,oJ 101 0] (.block 0 (.loop ZF))) (.seq (oR [oF 118 6 5,oL 119 118,oH 120 119,oJ 121 0] (.block 2 (.loop gF))) (.seq (oR [oF 148 6 5,oL 149 148,oH 150 149,oJ 151 0] (.block 4 (.loop LF))) (.seq (oR [oF 167 5 4,oL 168 167,oH 169 168,oJ 170 0] (.block 6 (.loop KF))) (.seq (oR [oF 187 5 5,oL 188 187,oH 189 188,oJ 190 0] (.block 8 (.loop fF))) (.seq (oR [oF 218 5 5,oL 219 218,oH 220 219,oJ 221 0] (.block 10 (.loop JF))) (.seq (oR [oM 237 7,oH 238 237,oJ 239 0] (.block 12 (.loop cH))) (oR [oM 255 7,oM 6 255] .ret)))))))))))))),[(.tmp 6)],3,[69,129,153,195,233,293,331,371,433,471]⟩
theorem xQ:gD Tryz.prog 22 JH:=okF Tryz.func22
def XF:C:=.seq (oR [oM 280 23,oF 281 5 5,oL 282 281,oH 283 282,oB 284 .lss 280 283] (oD 284 .skip (.exit 10))) (.seq (.block 11 (oR [oA 288 10 4,oF 289 5 5,oL 290 289,oM 291 23,oI 292 2 290 291,oF 293 0 292,oL 294 293,oC2 295 53 288 294,oM 287 295,oX 296 287 0,oX 297 287 1,oM 24 296,oM 25 297] (oR [oM 298 25,oU 299 298] (oD 299 (.reg [oM 300 7,oM 301 0,oF 302 5 5,oL 303 302,oM 304 23,oI 305 2 303 304,oA 306 2 305,oS 307 (.build zza [(0,(1,(.c (.int .i64 4)))),(1,(1,(.t 301))),(17,(2,(.t 306)))]),oS 308 (.IA zza 1 [(0,(.t 307))]),oAp 309 54 25 272 300 308,oM 7 309]) .skip)))) (.reg [oM 285 23,oC 286 .add 285 1,oM 23 286]))
def kF:C:=.seq (oR [oM 236 20,oF 237 5 5,oL 238 237,oH 239 238,oB 240 .lss 236 239] (oD 240 .skip (.exit 8))) (.seq (.block 9 (oR [oA 244 10 4,oF 245 5 5,oL 246 245,oM 247 20,oI 248 2 246 247,oF 249 0 248,oL 250 249,oC2 251 53 244 250,oM 243 251,oX 252 243 0,oX 253 243 1,oM 21 252,oM 22 253] (oR [oM 254 22,oM 255 254,oFg 256 5 4 255 true,oP 257 256 255 true,oMg 258 21 255 true,oIg 259 2 257 258 255 true,oFg 260 1 259 255 true,oP 261 260 255 true,oFg 262 5 5 255 true,oP 263 262 255 true,oMg 264 20 255 true,oIg 265 2 263 264 255 true,oFg 266 1 265 255 true,oP 267 266 255 true,oBg 268 .neq 261 267 255 true,oPa 269 255 268] (oD 269 (.reg [oM 270 7,oM 271 0,oF 272 5 5,oL 273 272,oM 274 20,oI 275 2 273 274,oA 276 2 275,oS 277 (.build zza [(0,(1,(.c (.int .i64 4)))),(1,(1,(.t 271))),(17,(2,(.t 276)))]),oS 278 (.IA zza 1 [(0,(.t 277))]),oAp 279 54 25 272 270 278,oM 7 279]) .skip)))) (.reg [oM 241 20,oC 242 .add 241 1,oM 20 242]))
def CF:C:=.seq (oR [oM 205 17,oF 206 5 4,oL 207 206,oH 208 207,oB 209 .lss 205 208] (oD 209 .skip (.exit 6))) (.seq (.block 7 (oR [oA 213 10 5,oF 214 5 4,oL 215 214,oM 216 17,oI 217 2 215 216,oF 218 0 217,oL 219 218,oC2 220 53 213 219,oM 212 220,oX 221 212 0,oX 222 212 1,oM 18 221,oM 19 222] (oR [oM 223 19,oU 224 223] (oD 224 (.reg [oM 225 7,oM 226 0,oF 227 5 4,oL 228 227,oM 229 17,oI 230 2 228 229,oF 231 0 230,oL 232 231,oS 233 (.build zza [(0,(1,(.c (.int .i64 5)))),(1,(1,(.t 226))),(2,(1,(.t 232)))]),oS 234 (.IA zza 1 [(0,(.t 233))]),oAp 235 54 25 272 225 234,oM 7 235]) .skip)))) (.reg [oM 210 17,oC 211 .add 210 1,oM 17 211]))
def BF:C:=.seq (oR [oM 175 14,oF 176 6 5,oL 177 176,oH 178 177,oB 179 .lss 175 178] (oD 179 .skip (.exit 4))) (.seq (.block 5 (oR [oA 183 10 4,oF 184 6 5,oL 185 184,oM 186 14,oI 187 13 185 186,oF 188 0 187,oL 189 188,oC2 190 52 183 189,oM 182 190,oX 191 182 0,oX 192 182 1,oM 15 191,oM 16 192] (oR [oM 193 16,oU 194 193] (oD 194 (.reg [oM 195 7,oM 196 0,oF 197 6 5,oL 198 197,oM 199 14,oI 200 13 198 199,oA 201 13 200,oS 202 (.build zza [(0,(1,(.c (.int .i64 1)))),(1,(1,(.t 196))),(4,(13,(.t 201)))]),oS 203 (.IA zza 1 [(0,(.t 202))]),oAp 204 54 25 272 195 203,oM 7 204]) .skip)))) (.reg [oM 180 14,oC 181 .add 180 1,oM 14 181]))
def lF:C:=.seq (oR [oM 132 11,oF 133 6 5,oL 134 133,oH 135 134,oB 136 .lss 132 135] (oD 136 .skip (.exit 2))) (.seq (.block 3 (oR [oA 140 10 4,oF 141 6 5,oL 142 141,oM 143 11,oI 144 13 142 143,oF 145 0 144,oL 146 145,oC2 147 52 140 146,oM 139 147,oX 148 139 0,oX 149 139 1,oM 12 148,oM 13 149] (oR [oM 150 13,oM 151 150,oFg 152 6 4 151 true,oP 153 152 151 true,oMg 154 12 151 true,oIg 155 13 153 154 151 true,oLg 156 13 155 151 true,oFg 157 6 5 151 true,oP 158 157 151 true,oMg 159 11 151 true,oIg 160 13 158 159 151 true,oLg 161 13 160 151 true,oCg 162 38 156 161 151 true,oUg 163 162 151 true,oPa 164 151 163] (oD 164 (.reg [oM 165 7,oM 166 0,oF 167 6 5,oL 168 167,oM 169 11,oI 170 13 168 169,oA 171 13 170,oS 172 (.build zza [(0,(1,(.c (.int .i64 3)))),(1,(1,(.t 166))),(4,(13,(.t 171)))]),oS 173 (.IA zza 1 [(0,(.t 172))]),oAp 174 54 25 272 165 173,oM 7 174]) .skip)))) (.reg [oM 137 11,oC 138 .add 137 1,oM 11 138]))
def NF:C:=.seq (oR [oM 101 8,oF 102 6 4,oL 103 102,oH 104 103,oB 105 .lss 101 104] (oD 105 .skip (.exit 0))) (.seq (.block 1 (oR [oA 109 10 5,oF 110 6 4,oL 111 110,oM 112 8,oI 113 13 111 112,oF 114 0 113,oL 115 114,oC2 116 52 109 115,oM 108 116,oX 117 108 0,oX 118 108 1,oM 9 117,oM 10 118] (oR [oM 119 10,oU 120 119] (oD 120 (.reg [oM 121 7,oM 122 0,oF 123 6 4,oL 124 123,oM 125 8,oI 126 13 124 125,oF 127 0 126,oL 128 127,oS 129 (.build zza [(0,(1,(.c (.int .i64 2)))),(1,(1,(.t 122))),(2,(1,(.t 128)))]),oS 130 (.IA zza 1 [(0,(.t 129))]),oAp 131 54 25 272 121 130,oM 7 131]) .skip)))) (.reg [oM 106 8,oC 107 .add 106 1,oM 8 107]))
def KI:FD:=⟨(oR [oQ 4 10 1,oQ 5 10 2,oS 6 (.mv (.c (.sl true [])))] (oR [oS 7 (.mv (.c (.sl true [])))] (.seq (oR [oF 26 1 4,oL 27 26,oF 28 1 5,oL 29 28,oB 30 .neq 27 29] (oD 30 (.reg [oM 31 7,oM 32 0,oF 33 1 5,oL 34 33,oS 35 (.build zza [(0,(1,(.c (.int .i64 6)))),(1,(1,(.t 32))),(3,(1,(.t 34)))]),oS 36 (.IA zza 1 [(0,(.t 35))]),oAp 37 54 25 272 31 36,oM 7 37]) .skip)) (.seq (oR [oF 38 2 4,oL 39 38,oF 40 2 5,oL 41 40,oB 42 .neq 39 41,oM 43 42,oFg 44 3 4 43 false,oP 45 44 43 false,oFg 46 3 5 43 false,oP 47 46 43 false,oBg 48 .neq 45 47 43 false,oPo 49 43 48,oM 50 49,oFg 51 4 4 50 false,oP 52 51 50 false,oFg 53 4 5 50 false,oP 54 53 50 false,oBg 55 .neq 52 54 50 false,oPo 56 50 55] (oD 56 (.reg [oM 57 7,oM 58 0,oF 59 2 5,oL 60 59,oF 61 3 5,oL 62 61,oF 63 4 5,oL 64 63,oS 65 (.build zza [(0,(1,(.c (.int .i64 7)))),(1,(1,(.t 58))),(19,(1,(.t 60))),(20,(1,(.t 62))),(21,(1,(.t 64)))]),oS 66 (.IA zza 1 [(0,(.t 65))]),oAp 67 54 25 272 57 66,oM 7 67]) .skip)) (.seq (oR [oF 68 9 4,oL 69 68,oF 70 9 5,oL 71 70,oS 72 (.bin .neq true (.t 69) (.t 71))] (oD 72 (.reg [oM 73 7,oM 74 0,oF 75 9 5,oL 76 75,oS 77 (.build zza [(0,(1,(.c (.int .i64 8)))),(1,(1,(.t 74))),(22,(1,(.t 76)))]),oS 78 (.IA zza 1 [(0,(.t 77))]),oAp 79 54 25 272 73 78,oM 7 79]) .skip)) (.seq (oR [oF 80 7 4,oL 81 80,oF 82 7 5,oL 83 82,oB 84 .neq 81 83,oM 85 84,oFg 86 8 4 85 false,oP 87 86 85 false,oFg 88 8 5 85 false,oP 89 88 85 false,oBg 90 .neq 87 89 85 false,oPo 91 85 90] (oD 91 (.reg [oM 92 7,oM 93 0,oF 94 7 5,oL 95 94,oF 96 8 5,oL 97 96,oS 98 (.build zza [(0,(1,(.c (.int .i64 9)))),(1,(1,(.t 93))),(23,(1,(.t 95))),(24,(1,(.t 97)))]),oS 99 (.IA zza 1 [(0,(.t 98))]),oAp 100 54 25 272 92 99,oM 7 100]) .skip)) (.seq (oR [oJ 8 0] (.block 0 (.loop NF))) (.seq (oR [oJ 11 0] (.block 2 (.loop lF))) (.seq (oR [oJ 14 0] (.block 4 (.loop BF))) (.seq (oR [oJ 17 0] (.block 6 (.loop CF))) (.seq (oR [oJ 20 0] (.block 8 (.loop kF))) (.seq (oR [oJ 23 0] (.block 10 (.loop XF))) (oR [oM 310 7,oM 6 310] .ret))))))))))))),[(.tmp 6)],3,[]⟩
theorem QX:gD Tryz.prog 24 KI:=okF Tryz.func24
def AI:FD:=⟨(oR [oQ 2 13 0,oQ 3 13 1,oZ 4 false] (oR [oA 5 13 2,oS 6 (.IA zzd 1 [(0,(.t 5))]),oS 7 (.build zzb [(6,(1,(.t 6)))]),oA 8 13 3,oS 9 (.IA zzd 1 [(0,(.t 8))]),oS 10 (.build zzb [(6,(1,(.t 9)))]),oC2 11 28 7 10,oM 4 11] .ret)),[(.tmp 4)],2,[]⟩
theorem PT:gD Tryz.prog 38 AI:=okF Tryz.func38
noncomputable def kR:FD:=cF [] Tryz.f36
theorem aX:gD Tryz.prog 36 kR:=okF Tryz.func36
noncomputable def PL:FD:=cF [] Tryz.f37
theorem BQ:gD Tryz.prog 37 PL:=okF Tryz.func37
noncomputable def wO:FD:=cF [31] Tryz.f40
theorem RT:gD Tryz.prog 40 wO:=okF Tryz.func40
def MI:C:=.seq (oR [oM 69 10,oM 70 9,oH 71 70,oB 72 .lss 69 71] (oD 72 .skip (.exit 3))) (.seq (.block 4 (.reg [oF 75 5 8,oLr 76 8 1 75,oM 77 9,oM 78 10,oI 79 1 77 78,oL 80 79,oM 81 9,oM 82 10,oI 83 1 81 82,oL 84 83,oS 85 (.bin .add false (.c (.int .i64 97)) (.t 84)),oS 86 (.conv (.some .i32) (.t 85)),oS 87 (.GB (.t 86)),oS 88 (.bin .add false (.c (.str (ByteArray.mk #[115]))) (.t 87)),oS 89 (.build zze [(0,(1,(.t 80))),(1,(1,(.t 88)))]),oS 90 (.IA zze 1 [(0,(.t 89))]),oAp 91 52 2 24 76 90,oF 92 5 8,oN (.store (.root 8) false 1 (.t 92) (.t 91))])) (.reg [oM 73 10,oC 74 .add 73 1,oM 10 74]))
def NT:C:=.seq (oR [oM 21 6,oM 22 4,oB 23 .lss 21 22] (oD 23 .skip (.exit 0))) (.seq (.block 1 (oR [oF 26 0 1,oL 27 26,oM 28 6,oI 29 5 27 28,oA 30 5 29,oY 7 zzf,oV 5 7 30] (oR [oA 31 1 1,oM 32 6,oC2 33 29 31 32,oS 34 (.build zzb [(0,(1,(.t 33)))]),oY 8 zzb,oV 10 8 34] (.seq (oR [oF 35 0 8,oL 36 35,oC1 37 30 36] (oD 37 (.reg [oM 38 6,oS 39 (.bin .add false (.c (.int .i64 65)) (.t 38)),oS 40 (.conv (.some .i32) (.t 39)),oS 41 (.GB (.t 40)),oF 42 1 8,oW 42 41]) .skip)) (.seq (oR [oF 43 0 8,oL 44 43] (.block 2 (oR [oC 46 .eql 44 2,oM 45 46] (oD 45 (.reg [oS 47 (.load (.root 7) true 5 (.t 7)),oC1 48 31 47,oS 49 (.load (.root 7) true 5 (.t 7)),oC1 50 32 49,oF 51 2 8,oN (.store (.root 8) false 1 (.t 51) (.t 48)),oF 52 3 8,oN (.store (.root 8) false 1 (.t 52) (.t 50))]) (oR [oC 54 .eql 44 3,oM 53 54] (oD 53 (.reg [oF 55 1 7,oL 56 55,oS 57 (.bin .rem false (.t 56) (.c (.int .u8 4))),oS 58 (.conv (.some .i64) (.t 57)),oF 59 4 8,oW 59 58]) (oR [oC 61 .eql 44 4,oM 60 61] (oD 60 (oR [oF 62 2 7,oL 63 62,oS 64 (.bin .rem false (.t 63) (.c (.int .u8 2))),oS 65 (.bin .eql false (.t 64) (.c (.int .u8 1))),oF 66 9 8,oW 66 65] (oR [oA 67 5 7,oC1 68 33 67,oM 9 68] (oR [oJ 10 0] (.block 3 (.loop MI))))) (oR [oC 94 .eql 44 5,oM 93 94] (oD 93 (.reg [oA 95 1 1,oM 96 6,oS 97 (.mA 171 (.c (.fn 34 [])) [(.t 95),(.t 96),(.c (.bool true))]),oF 98 6 8,oW 98 97]) (oR [oC 100 .eql 44 6,oM 99 100] (oD 99 (oR [oF 101 2 7,oL 102 101,oS 103 (.bin .rem false (.t 102) (.c (.int .u8 2))),oS 104 (.bin .eql false (.t 103) (.c (.int .u8 1))),oF 105 9 8,oW 105 104] (oR [oA 106 1 1,oM 107 6,oS 108 (.mA 171 (.c (.fn 34 [])) [(.t 106),(.t 107),(.c (.bool false))]),oF 109 6 8,oW 109 108] (oR [oF 110 6 8,oL 111 110,oH 112 111,oC 113 .eql 112 0] (oD 113 (.reg [oF 114 1 8,oL 115 114,oS 116 (.build zzb [(0,(1,(.c (.int .i64 5)))),(1,(1,(.t 115)))]),oV 10 8 116]) .skip)))) (oR [oC 118 .eql 44 7,oM 117 118] (oD 117 (.reg [oF 119 1 7,oLr 120 7 1 119,oS 121 (.bin .rem false (.t 120) (.c (.int .u8 4))),oS 122 (.conv (.some .i64) (.t 121)),oF 123 3 7,oLr 124 7 1 123,oS 125 (.conv (.some .i64) (.t 124)),oM 126 4,oB 127 .rem 125 126,oF 128 4 8,oN (.store (.root 8) false 1 (.t 128) (.t 122)),oF 129 8 8,oN (.store (.root 8) false 1 (.t 129) (.t 127))]) (oR [oC 131 .eql 44 8,oM 130 131] (oD 130 (oR [oF 132 1 7,oLr 133 7 1 132,oS 134 (.bin .rem false (.t 133) (.c (.int .u8 4))),oS 135 (.conv (.some .i64) (.t 134)),oS 136 (.load (.root 1) true 1 (.t 1)),oF 137 2 7,oLr 138 7 1 137,oC2 139 35 136 138,oF 140 3 7,oLr 141 7 1 140,oS 142 (.conv (.some .i64) (.t 141)),oM 143 4,oB 144 .rem 142 143,oF 145 4 8,oN (.store (.root 8) false 1 (.t 145) (.t 135)),oF 146 7 8,oN (.store (.root 8) false 1 (.t 146) (.t 139)),oF 147 8 8,oN (.store (.root 8) false 1 (.t 147) (.t 144))] (oR [oF 148 7 8,oL 149 148,oC 150 .lss 149 0] (oD 150 (.reg [oF 151 4 8,oL 152 151,oF 153 8 8,oL 154 153,oS 155 (.build zzb [(0,(1,(.c (.int .i64 7)))),(4,(1,(.t 152))),(8,(1,(.t 154)))]),oV 10 8 155]) .skip))) (oR [oC 157 .eql 44 9,oM 156 157] (oD 156 (.reg [oF 158 3 7,oL 159 158,oS 160 (.conv (.some .i64) (.t 159)),oM 161 4,oB 162 .rem 160 161,oF 163 8 8,oW 163 162]) .skip)))))))))))))))))) (.reg [oF 164 0 5,oL 165 164,oA 166 10 8,oS 167 (.SB 10 zzb 1 [(0,(.t 166))]),oS 168 (.jB .any 68 10 120 (.t 165) (.t 167)),oF 169 0 5,oW 169 168])))))) (.reg [oM 24 6,oC 25 .add 24 1,oM 6 25]))
def wI:FD:=⟨(oR [oQ 1 1 0,oS 2 (.alloc [(.sl true [])]),oZ 3 false] (oR [oF 11 0 1,oL 12 11,oH 13 12,oM 4 13] (.seq (oR [oM 14 4,oC 15 .lss 14 1,oM 16 15,oMg 17 4 16 false,oCi 18 .gtr 17 5 16 false,oPo 19 16 18] (oD 19 (oR [oS 20 (.build [(.sl true [])] []),oV 1 2 20,oZ 3 false] .ret) .skip)) (oR [oS 5 (.alloc [(.sl true [])])] (.seq (oR [oJ 6 0] (.block 0 (.loop NT))) (oR [oA 170 1 5,oV 1 2 170,oZ 3 true] .ret)))))),[(.cell 2 true 1),(.tmp 3)],1,[5000000,337,334,1000000+34]⟩
theorem O8:gD Tryz.prog 11 wI:=okF Tryz.func11
def jF:C:=.seq (oR [oM 15 6,oM 16 1,oH 17 16,oB 18 .lss 15 17,oM 19 18,oFg 20 0 5 19 true,oP 21 20 19 true,oHg 22 21 19 true,oCi 23 .gtr 22 0 19 true,oPa 24 19 23] (oD 24 .skip (.exit 0))) (.seq (.block 1 (oR [oM 27 1,oM 28 6,oI 29 4 27 28,oA 30 4 29,oY 7 zzg,oV 4 7 30] (oR [oF 31 0 5,oLr 32 5 1 31,oF 33 1 7,oLr 34 7 1 33,oS 35 (.conv (.some .i64) (.t 34)),oF 36 0 5,oLr 37 5 1 36,oH 38 37,oB 39 .rem 35 38,oI 40 5 32 39,oM 8 40] (oR [oM 41 8,oS 42 (.IA zzh 0 []),oM 43 8,oK 44 43,oF 45 4 44,oL 46 45,oS 47 (.dB .any 89 3 3 (.t 42) (.t 46)),oK 48 41,oF 49 4 48,oW 49 47] (oR [oJ 9 0] (.seq (oR [oM 50 8,oK 51 50,oF 52 4 51,oL 53 52,oH 54 53,oC 55 .gtr 54 0] (oD 55 (.reg [oF 56 2 7,oLr 57 7 1 56,oS 58 (.conv (.some .i64) (.t 57)),oM 59 8,oK 60 59,oF 61 4 60,oL 62 61,oH 63 62,oB 64 .rem 58 63,oM 9 64]) .skip)) (oR [oF 65 0 7,oL 66 65,oS 67 (.bin .rem false (.t 66) (.c (.int .u8 8)))] (.block 2 (oR [oS 93 (.bin .eql false (.t 67) (.c (.int .u8 0))),oM 92 93] (oD 92 (.reg [oM 94 8,oM 95 8,oK 96 95,oF 97 1 96,oL 98 97,oF 99 2 7,oLr 100 7 1 99,oS 101 (.bin .rem false (.t 100) (.c (.int .u8 5))),oB 102 .add 98 101,oS 103 (.bin .sub false (.t 102) (.c (.int .u8 2))),oK 104 94,oF 105 1 104,oW 105 103]) (oR [oS 107 (.bin .eql false (.t 67) (.c (.int .u8 1))),oM 106 107] (oD 106 (.reg [oM 108 8,oM 109 8,oK 110 109,oF 111 2 110,oL 112 111,oF 113 3 7,oLr 114 7 1 113,oS 115 (.bin .rem false (.t 114) (.c (.int .u8 5))),oB 116 .add 112 115,oS 117 (.bin .sub false (.t 116) (.c (.int .u8 2))),oK 118 108,oF 119 2 118,oW 119 117]) (oR [oS 121 (.bin .eql false (.t 67) (.c (.int .u8 2))),oM 120 121] (oD 120 (.reg [oM 122 8,oM 123 8,oK 124 123,oF 125 1 124,oL 126 125,oF 127 2 7,oLr 128 7 1 127,oS 129 (.bin .rem false (.t 128) (.c (.int .u8 6))),oS 130 (.bin .shl false (.c (.int .u8 1)) (.t 129)),oB 131 .xor 126 130,oK 132 122,oF 133 1 132,oW 133 131]) (oR [oS 135 (.bin .eql false (.t 67) (.c (.int .u8 3))),oM 134 135] (oD 134 (.reg [oM 136 8,oM 137 8,oK 138 137,oF 139 3 138,oL 140 139,oF 141 2 7,oLr 142 7 1 141,oB 143 .add 140 142,oK 144 136,oF 145 3 144,oW 145 143]) (oR [oS 147 (.bin .eql false (.t 67) (.c (.int .u8 4))),oM 146 147] (oD 146 (oR [oM 148 8,oK 149 148,oF 150 4 149,oL 151 150,oH 152 151,oC 153 .lss 152 8] (oD 153 (.reg [oM 154 8,oM 155 8,oK 156 155,oF 157 4 156,oL 158 157,oF 159 2 7,oLr 160 7 1 159,oF 161 3 7,oLr 162 7 1 161,oF 163 2 7,oLr 164 7 1 163,oS 165 (.bin .quo false (.t 164) (.c (.int .u8 12))),oS 166 (.build zzh [(0,(1,(.t 160))),(1,(1,(.t 162))),(2,(1,(.t 165)))]),oS 167 (.IA zzh 1 [(0,(.t 166))]),oS 168 (.RA .any 89 3 3 (.t 158) (.t 167)),oK 169 154,oF 170 4 169,oW 170 168]) .skip)) (oR [oS 172 (.bin .eql false (.t 67) (.c (.int .u8 5))),oM 171 172] (oD 171 (oR [oM 173 8,oK 174 173,oF 175 4 174,oL 176 175,oH 177 176,oC 178 .gtr 177 0] (oD 178 (.reg [oM 179 8,oM 180 8,oK 181 180,oF 182 4 181,oL 183 182,oM 184 9,oS 185 (.nC false 3 (.t 183) .none (.some (.t 184)) .none),oM 186 8,oK 187 186,oF 188 4 187,oL 189 188,oM 190 9,oC 191 .add 190 1,oS 192 (.nC false 3 (.t 189) (.some (.t 191)) .none .none),oS 193 (.RA .any 89 3 3 (.t 185) (.t 192)),oK 194 179,oF 195 4 194,oW 195 193]) .skip)) (oR [oS 197 (.bin .eql false (.t 67) (.c (.int .u8 6))),oM 196 197] (oD 196 (oR [oM 198 8,oK 199 198,oF 200 4 199,oL 201 200,oH 202 201,oC 203 .gtr 202 0] (oD 203 (.reg [oM 204 8,oK 205 204,oF 206 4 205,oL 207 206,oM 208 9,oF 209 3 7,oLr 210 7 1 209,oI 211 3 207 208,oF 212 2 211,oW 212 210]) .skip)) (oR [oM 68 8,oK 69 68,oF 70 4 69,oL 71 70,oH 72 71,oC 73 .gtr 72 0] (oD 73 (.reg [oM 74 8,oK 75 74,oF 76 4 75,oL 77 76,oM 78 9,oM 79 8,oK 80 79,oF 81 4 80,oL 82 81,oM 83 9,oI 84 3 82 83,oF 85 1 84,oL 86 85,oF 87 3 7,oLr 88 7 1 87,oB 89 .add 86 88,oI 90 3 77 78,oF 91 1 90,oW 91 89]) .skip)))))))))))))))))))))))) (.reg [oM 25 6,oC 26 .add 25 1,oM 6 26]))
def qH:FD:=⟨(oR [oQ 2 1 0,oS 4 (.alloc [(.sl true [])])] (oR [oS 10 (.IA zzf 0 []),oF 11 0 2,oL 12 11,oS 13 (.dB .any 77 5 32 (.t 10) (.t 12)),oS 14 (.build [(.sl true [])] [(0,(1,(.t 13)))]),oS 5 (.alloc [(.sl true [])]),oV 1 5 14] (.seq (oR [oJ 6 0] (.block 0 (.loop jF))) (oR [oA 213 1 5,oV 1 4 213] .ret)))),[(.cell 4 true 1)],2,[26,94,337,387]⟩
theorem xX:gD Tryz.prog 12 qH:=okF Tryz.func12
def iD:FD:=⟨(oR [oQ 1 10 0,oZ 2 false] (oR [oA 5 10 1,oY 3 zzb,oV 10 3 5] (oR [oF 6 0 3,oN (.store .any false 1 (.t 6) (.c (.int .i64 0)))] (oR [oZ 4 true] (.seq (oR [oF 7 0 1,oL 8 7] (.block 0 (oR [oC 10 .eql 8 1,oM 9 10] (oD 9 .skip (oR [oC 12 .eql 8 2,oM 11 12] (oD 11 (oR [oF 13 2 1,oL 14 13,oF 15 3 1,oL 16 15,oB 17 .leq 14 16,oM 4 17] (.reg [oF 18 2 3,oN (.store .any false 1 (.t 18) (.c (.int .i64 0))),oF 19 3 3,oN (.store .any false 1 (.t 19) (.c (.int .i64 0)))])) (oR [oC 21 .eql 8 3,oM 20 21] (oD 20 (oR [oF 22 4 1,oL 23 22,oC 24 .geq 23 0,oM 25 24,oFg 26 4 1 25 true,oP 27 26 25 true,oCi 28 .leq 27 200 25 true,oPa 29 25 28,oM 4 29] (.reg [oF 30 4 3,oN (.store .any false 1 (.t 30) (.c (.int .i64 0)))])) (oR [oC 32 .eql 8 4,oM 31 32] (oD 31 (oR [oF 33 1 1,oL 34 33,oC1 35 78 34,oM 36 35,oFg 37 5 1 36 true,oP 38 37 36 true,oG 39 (.call .any 79 [(.t 38)]) 36 true,oPa 40 36 39,oM 4 40] (.reg [oF 41 1 3,oN (.store .any false 1 (.t 41) (.c (.str (ByteArray.mk #[])))),oF 42 5 3,oN (.store .any false 1 (.t 42) (.c (.sl true []))),oF 43 9 3,oN (.store .any false 1 (.t 43) (.c (.bool false)))])) (.seq (oR [oC 45 .eql 8 5,oM 44 45] (oD 44 .skip (.reg [oC 46 .eql 8 6,oM 44 46]))) (oD 44 (oR [oF 47 1 1,oL 48 47,oC1 49 78 48,oM 50 49,oLg 51 10 1 50 true,oG 52 (.call .any 80 [(.t 51)]) 50 true,oPa 53 50 52,oM 4 53] (oR [oF 54 1 3,oN (.store .any false 1 (.t 54) (.c (.str (ByteArray.mk #[])))),oF 55 6 3,oN (.store .any false 1 (.t 55) (.c (.sl true [])))] (.reg [oF 56 9 1,oL 57 56,oM 58 57,oFg 59 0 1 58 true,oP 60 59 58 true,oCi 61 .eql 60 5 58 true,oPa 62 58 61,oF 63 9 3,oW 63 62]))) (.seq (oR [oC 65 .eql 8 7,oM 64 65] (oD 64 .skip (.reg [oC 66 .eql 8 8,oM 64 66]))) (oD 64 (oR [oF 67 4 1,oL 68 67,oC 69 .geq 68 0,oM 70 69,oFg 71 4 1 70 true,oP 72 71 70 true,oCi 73 .leq 72 50 70 true,oPa 74 70 73,oM 4 74] (oR [oF 75 4 3,oN (.store .any false 1 (.t 75) (.c (.int .i64 0))),oF 76 8 3,oN (.store .any false 1 (.t 76) (.c (.int .i64 0)))] (oR [oF 77 0 1,oL 78 77,oC 79 .eql 78 8] (oD 79 (.reg [oF 80 7 3,oN (.store .any false 1 (.t 80) (.c (.int .i64 0)))]) .skip)))) (oR [oC 82 .eql 8 9,oM 81 82] (oD 81 (.reg [oF 83 8 3,oN (.store .any false 1 (.t 83) (.c (.int .i64 0)))]) (oR [oZ 2 false] .ret))))))))))))))))) (oR [oM 84 4,oM 85 84,oLg 86 10 3 85 true,oG 87 (.build zzb []) 85 true,oCg 88 81 86 87 85 true,oPa 89 85 88,oM 2 89] .ret)))))),[(.tmp 2)],1,[]⟩
theorem J0:gD Tryz.prog 44 iD:=okF Tryz.func44
def kI:C:=oR [oB 10 .lss 9 8] (.seq (oD 10 .skip (.exit 0)) (.seq (.block 1 (oR [oI 11 13 7 9,oA 12 13 11,oY 5 zzd,oV 13 5 12] (.reg [oM 13 3,oF 14 2 5,oL 15 14,oS 16 (.IA [(.int .i64 0)] 1 [(0,(.t 15))]),oAp 17 3 1 8 13 16,oM 3 17]))) (.reg [oC 18 .add 9 1,oM 9 18])))
def cM:FD:=⟨(oR [oQ 1 10 0,oS 2 (.mv (.c (.sl true [])))] (oR [oS 3 (.mv (.c (.sl true [])))] (.seq (oR [oF 6 6 1,oL 7 6,oH 8 7,oJ 9 0] (.block 0 (.loop kI))) (.seq (oR [oF 19 0 1,oL 20 19,oC 21 .eql 20 8] (oD 21 (.reg [oM 22 3,oF 23 7 1,oL 24 23,oS 25 (.IA [(.int .i64 0)] 1 [(0,(.t 24))]),oAp 26 3 1 8 22 25,oM 3 26]) .skip)) (.seq (oR [oF 27 0 1,oL 28 27,oC 29 .geq 28 7] (oD 29 (.reg [oM 30 3,oF 31 8 1,oL 32 31,oS 33 (.IA [(.int .i64 0)] 1 [(0,(.t 32))]),oAp 34 3 1 8 30 33,oM 3 34]) .skip)) (oR [oM 35 3,oM 2 35] .ret)))))),[(.tmp 2)],1,[]⟩
theorem Z0:gD Tryz.prog 45 cM:=okF Tryz.func45
def uE:FD:=⟨(oR [oS 2 (.mv (.c (.sl true [])))] (.seq (oR [oM 3 0,oS 4 (.jC false false (.t 3) (.c (.sl true [])))] (oD 4 (oR [oS 2 (.mv (.c (.sl true [])))] .ret) .skip)) (oR [oS 5 (.IA zzb 0 []),oM 6 0,oS 7 (.dB .any 68 10 120 (.t 5) (.t 6)),oM 2 7] .ret))),[(.tmp 2)],1,[14]⟩
theorem WP:gD Tryz.prog 54 uE:=okF Tryz.func54
def CD:FD:=⟨(oR [oS 2 (.mv (.c (.sl true [])))] (.seq (oR [oM 3 0,oS 4 (.jC false false (.t 3) (.c (.sl true [])))] (oD 4 (oR [oS 2 (.mv (.c (.sl true [])))] .ret) .skip)) (oR [oS 5 (.IA zze 0 []),oM 6 0,oS 7 (.dB .any 52 2 24 (.t 5) (.t 6)),oM 2 7] .ret))),[(.tmp 2)],1,[14]⟩
theorem nO:gD Tryz.prog 55 CD:=okF Tryz.func55
def XD:FD:=⟨(oR [oS 2 (.mv (.c (.sl true [])))] (.seq (oR [oM 3 0,oS 4 (.jC false false (.t 3) (.c (.sl true [])))] (oD 4 (oR [oS 2 (.mv (.c (.sl true [])))] .ret) .skip)) (oR [oS 5 (.IA zzd 0 []),oM 6 0,oS 7 (.dB .any 50 13 160 (.t 5) (.t 6)),oM 2 7] .ret))),[(.tmp 2)],1,[14]⟩
theorem bO:gD Tryz.prog 56 XD:=okF Tryz.func56
def wE:FD:=⟨(oR [oS 2 (.mv (.c (.sl true [])))] (.seq (oR [oM 3 0,oS 4 (.jC false false (.t 3) (.c (.sl true [])))] (oD 4 (oR [oS 2 (.mv (.c (.sl true [])))] .ret) .skip)) (oR [oS 5 (.IA zzc 0 []),oM 6 0,oS 7 (.dB .any 48 8 120 (.t 5) (.t 6)),oM 2 7] .ret))),[(.tmp 2)],1,[14]⟩
theorem DO:gD Tryz.prog 57 wE:=okF Tryz.func57
def kE:FD:=⟨(oR [oS 2 (.mv (.c (.sl true [])))] (.seq (oR [oM 3 0,oS 4 (.jC false false (.t 3) (.c (.sl true [])))] (oD 4 (oR [oS 2 (.mv (.c (.sl true [])))] .ret) .skip)) (oR [oS 5 (.IA zze 0 []),oM 6 0,oS 7 (.dB .any 114 2 24 (.t 5) (.t 6)),oM 2 7] .ret))),[(.tmp 2)],1,[14]⟩
theorem cQ:gD Tryz.prog 58 kE:=okF Tryz.func58
def GD:FD:=⟨(oR [oZ 4 false] (oR [oM 6 1,oC 7 .eql 6 5,oM 8 7,oMg 9 1 8 false,oCi 10 .eql 9 6 8 false,oPo 11 8 10,oM 5 11] (.seq (oR [oM 12 0] (.block 0 (.seq (oR [oC 14 .eql 12 1,oM 13 14] (oD 13 .skip (oR [oC 15 .eql 12 2,oM 13 15] (oD 13 .skip (.reg [oC 16 .eql 12 3,oM 13 16]))))) (oD 13 (oR [oM 17 5,oM 4 17] .ret) (.seq (oR [oC 19 .eql 12 4,oM 18 19] (oD 18 .skip (.reg [oC 20 .eql 12 5,oM 18 20]))) (oD 18 (oR [oM 21 1,oC 22 .eql 21 4,oM 4 22] .ret) (oR [oC 24 .eql 12 6,oM 23 24] (oD 23 (oR [oM 25 5,oM 26 25,oMg 27 1 26 false,oCi 28 .eql 27 4 26 false,oPo 29 26 28,oM 4 29] .ret) (oR [oC 31 .eql 12 7,oM 30 31] (oD 30 (oR [oM 32 1,oC 33 .eql 32 2,oM 34 33,oMg 35 1 34 false,oCi 36 .eql 35 3 34 false,oPo 37 34 36,oM 38 37,oMg 39 1 38 false,oCi 40 .eql 39 7 38 false,oPo 41 38 40,oM 42 41,oMg 43 1 42 false,oCi 44 .eql 43 8 42 false,oPo 45 42 44,oM 4 45] .ret) (oR [oC 47 .eql 12 8,oM 46 47] (oD 46 (oR [oM 48 1,oC 49 .eql 48 4,oM 50 49,oMg 51 1 50 false,oCi 52 .eql 51 6 50 false,oPo 53 50 52,oM 4 53] .ret) (oR [oC 55 .eql 12 9,oM 54 55] (oD 54 (oR [oM 56 1,oC 57 .geq 56 7,oM 58 57,oMg 59 1 58 true,oCi 60 .leq 59 9 58 true,oPa 61 58 60,oM 4 61] .ret) .skip)))))))))))))) (oR [oZ 4 false] .ret)))),[(.tmp 4)],2,[]⟩
theorem wW:gD Tryz.prog 59 GD:=okF Tryz.func59
def bK:FD:=⟨(oR [oQ 2 10 0,oQ 3 1 1,oJ 4 0] (oR [oF 5 6 2,oL 6 5,oS 7 (.zC 83 [(.t 3)]),oC2 8 82 6 7,oM 4 8] .ret)),[(.tmp 4)],2,[]⟩
theorem iX:gD Tryz.prog 46 bK:=okF Tryz.func46
def CH:C:=oR [oB 8 .lss 7 6] (.seq (oD 8 .skip (.exit 0)) (.seq (.block 1 (oR [oM 9 7,oM 5 9] (oR [oM 10 1,oM 11 5,oS 12 (.mA 16 (.t 10) [(.t 11)])] (oD 12 (oR [oM 13 5,oM 4 13] .ret) .skip)))) (.reg [oC 14 .add 7 1,oM 7 14])))
def bH:FD:=⟨(oR [oJ 4 0] (.seq (oR [oM 6 0,oJ 7 0] (.block 0 (.loop CH))) (oR [oM 15 0,oM 4 15] .ret))),[(.tmp 4)],2,[2000010]⟩
theorem DR:gD Tryz.prog 60 bH:=okF Tryz.func60
def lH:FD:=⟨(oR [oZ 4 false] (oR [oL 5 1,oK 6 5,oF 7 6 6,oL 8 7,oM 9 0,oI 10 13 8 9,oF 11 0 10,oL 12 11,oF 13 4 2,oF 14 0 13,oL 15 14,oB 16 .gtr 12 15,oM 4 16] .ret)),[(.tmp 4)],3,[]⟩
theorem zN:gD Tryz.prog 61 lH:=okF Tryz.func61
def nK:FD:=⟨(oR [oQ 2 10 0,oQ 3 1 1,oJ 4 0] (oR [oF 5 5 2,oL 6 5,oS 7 (.zC 86 [(.t 3)]),oC2 8 85 6 7,oM 4 8] .ret)),[(.tmp 4)],2,[]⟩
theorem pX:gD Tryz.prog 48 nK:=okF Tryz.func48
def zH:FD:=⟨(oR [oZ 4 false] (oR [oL 5 1,oK 6 5,oF 7 5 6,oL 8 7,oM 9 0,oI 10 2 8 9,oF 11 0 10,oL 12 11,oF 13 17 2,oF 14 0 13,oL 15 14,oB 16 .gtr 12 15,oM 4 16] .ret)),[(.tmp 4)],3,[]⟩
theorem xN:gD Tryz.prog 64 zH:=okF Tryz.func64
def dD:FD:=⟨(oR [oQ 1 10 0,oZ 2 false] (.seq (oR [oF 3 0 1,oL 4 3,oC 5 .lss 4 1,oM 6 5,oFg 7 0 1 6 false,oP 8 7 6 false,oCi 9 .gtr 8 9 6 false,oPo 10 6 9,oM 11 10,oLg 12 10 1 11 false,oLg 13 10 1 11 false,oG 14 (.call .any 87 [(.t 13)]) 11 false,oCg 15 28 12 14 11 false,oUg 16 15 11 false,oPo 17 11 16,oM 18 17,oFg 19 0 1 18 false,oP 20 19 18 false,oG 21 (.call .any 30 [(.t 20)]) 18 false,oMg 22 21 18 false,oFg 23 1 1 22 true,oP 24 23 22 true,oG 25 (.call .any 88 [(.t 24)]) 22 true,oUg 26 25 22 true,oPb 27 22 26 18 false,oPo 28 18 27] (oD 28 (oR [oZ 2 false] .ret) .skip)) (.seq (oR [oF 29 0 1,oL 30 29] (.block 0 (oR [oC 32 .eql 30 2,oM 31 32] (oD 31 (oR [oF 33 2 1,oL 34 33,oF 35 3 1,oL 36 35,oB 37 .leq 34 36,oM 2 37] .ret) (oR [oC 39 .eql 30 3,oM 38 39] (oD 38 (oR [oF 40 4 1,oL 41 40,oC 42 .geq 41 0,oM 43 42,oFg 44 4 1 43 true,oP 45 44 43 true,oCi 46 .leq 45 200 43 true,oPa 47 43 46,oM 2 47] .ret) (oR [oC 49 .eql 30 4,oM 48 49] (oD 48 (oR [oF 50 5 1,oL 51 50,oC1 52 89 51,oM 2 52] .ret) (.seq (oR [oC 54 .eql 30 5,oM 53 54] (oD 53 .skip (.reg [oC 55 .eql 30 6,oM 53 55]))) (oD 53 (oR [oF 56 6 1,oL 57 56,oF 58 0 1,oL 59 58,oC 60 .eql 59 5,oC2 61 90 57 60,oM 2 61] .ret) (.seq (oR [oC 63 .eql 30 7,oM 62 63] (oD 62 .skip (.reg [oC 64 .eql 30 8,oM 62 64]))) (oD 62 (oR [oF 65 4 1,oL 66 65,oC 67 .geq 66 0,oM 68 67,oFg 69 4 1 68 true,oP 70 69 68 true,oCi 71 .leq 70 50 68 true,oPa 72 68 71,oM 2 72] .ret) .skip)))))))))))) (oR [oZ 2 true] .ret)))),[(.tmp 2)],1,[]⟩
theorem U6:gD Tryz.prog 49 dD:=okF Tryz.func49
def zM:FD:=⟨(oR [oZ 2 false] (oR [oM 3 0,oC 4 .eql 3 4,oM 5 4,oMg 6 0 5 false,oCi 7 .eql 6 5 5 false,oPo 8 5 7,oM 9 8,oMg 10 0 9 false,oCi 11 .eql 10 6 9 false,oPo 12 9 11,oM 2 12] .ret)),[(.tmp 2)],1,[]⟩
theorem P0:gD Tryz.prog 30 zM:=okF Tryz.func30
def JI:C:=.seq (oR [oM 5 4,oF 6 6 1,oL 7 6,oH 8 7,oB 9 .lss 5 8] (oD 9 .skip (.exit 0))) (.seq (.block 1 (.reg [oM 12 3,oF 13 6 1,oL 14 13,oM 15 4,oI 16 13 14 15,oF 17 2 16,oL 18 17,oS 19 (.IA [(.int .i64 0)] 1 [(0,(.t 18))]),oAp 20 3 1 8 12 19,oM 3 20])) (.reg [oM 10 4,oC 11 .add 10 1,oM 4 11]))
def QN:FD:=⟨(oR [oQ 1 10 0,oS 2 (.mv (.c (.sl true [])))] (oR [oS 3 (.mv (.c (.sl true [])))] (.seq (oR [oJ 4 0] (.block 0 (.loop JI))) (.seq (oR [oF 21 0 1,oL 22 21,oC 23 .eql 22 8] (oD 23 (.reg [oM 24 3,oF 25 7 1,oL 26 25,oS 27 (.IA [(.int .i64 0)] 1 [(0,(.t 26))]),oAp 28 3 1 8 24 27,oM 3 28]) .skip)) (.seq (oR [oF 29 0 1,oL 30 29,oC 31 .eql 30 7,oM 32 31,oFg 33 0 1 32 false,oP 34 33 32 false,oCi 35 .eql 34 8 32 false,oPo 36 32 35,oM 37 36,oFg 38 0 1 37 false,oP 39 38 37 false,oCi 40 .eql 39 9 37 false,oPo 41 37 40] (oD 41 (.reg [oM 42 3,oF 43 8 1,oL 44 43,oS 45 (.IA [(.int .i64 0)] 1 [(0,(.t 44))]),oAp 46 3 1 8 42 45,oM 3 46]) .skip)) (oR [oM 47 3,oM 2 47] .ret)))))),[(.tmp 2)],1,[]⟩
theorem i3:gD Tryz.prog 50 QN:=okF Tryz.func50
def QK:FD:=⟨(oR [oZ 2 false] (oR [oM 3 0,oC 4 .geq 3 1,oM 5 4,oMg 6 0 5 true,oCi 7 .leq 6 4 5 true,oPa 8 5 7,oM 2 8] .ret)),[(.tmp 2)],1,[]⟩
theorem cX:gD Tryz.prog 51 QK:=okF Tryz.func51
def LE:FD:=⟨(oR [oQ 2 13 0,oQ 3 13 1,oZ 4 false] (oR [oF 5 0 2,oL 6 5,oF 7 0 3,oL 8 7,oB 9 .eql 6 8,oM 10 9,oFg 11 1 2 10 true,oP 12 11 10 true,oFg 13 1 3 10 true,oP 14 13 10 true,oBg 15 .eql 12 14 10 true,oPa 16 10 15,oM 17 16,oFg 18 2 2 17 true,oP 19 18 17 true,oFg 20 2 3 17 true,oP 21 20 17 true,oBg 22 .eql 19 21 17 true,oPa 23 17 22,oM 24 23,oFg 25 3 2 24 true,oP 26 25 24 true,oFg 27 3 3 24 true,oP 28 27 24 true,oG 29 (.bin .eql true (.t 26) (.t 28)) 24 true,oPa 30 24 29,oM 31 30,oFg 32 4 2 31 true,oP 33 32 31 true,oFg 34 4 3 31 true,oP 35 34 31 true,oG 36 (.bin .eql true (.t 33) (.t 35)) 31 true,oPa 37 31 36,oM 38 37,oFg 39 5 2 38 true,oLg 40 8 39 38 true,oFg 41 5 3 38 true,oLg 42 8 41 38 true,oCg 43 95 40 42 38 true,oPa 44 38 43,oM 4 44] .ret)),[(.tmp 4)],2,[]⟩
theorem OT:gD Tryz.prog 67 LE:=okF Tryz.func67
def DG:FD:=⟨(oR [oQ 2 13 0,oQ 3 13 1,oZ 4 false] (oR [oF 5 0 2,oL 6 5,oF 7 0 3,oL 8 7,oB 9 .eql 6 8,oM 10 9,oFg 11 1 2 10 true,oP 12 11 10 true,oFg 13 1 3 10 true,oP 14 13 10 true,oBg 15 .eql 12 14 10 true,oPa 16 10 15,oM 17 16,oFg 18 2 2 17 true,oP 19 18 17 true,oFg 20 2 3 17 true,oP 21 20 17 true,oBg 22 .eql 19 21 17 true,oPa 23 17 22,oM 24 23,oFg 25 3 2 24 true,oP 26 25 24 true,oFg 27 3 3 24 true,oP 28 27 24 true,oG 29 (.bin .eql true (.t 26) (.t 28)) 24 true,oPa 30 24 29,oM 31 30,oFg 32 4 2 31 true,oP 33 32 31 true,oFg 34 4 3 31 true,oP 35 34 31 true,oG 36 (.bin .eql true (.t 33) (.t 35)) 31 true,oPa 37 31 36,oM 38 37,oFg 39 5 2 38 true,oLg 40 8 39 38 true,oFg 41 5 3 38 true,oLg 42 8 41 38 true,oCg 43 84 40 42 38 true,oPa 44 38 43,oM 4 44] .ret)),[(.tmp 4)],2,[]⟩
theorem T0:gD Tryz.prog 47 DG:=okF Tryz.func47
def pJ:C:=.seq (oR [oM 7 6,oF 8 6 2,oL 9 8,oH 10 9,oB 11 .lss 7 10] (oD 11 .skip (.exit 0))) (.seq (.block 1 (oR [oF 14 6 2,oL 15 14,oM 16 6,oI 17 13 15 16,oF 18 0 17,oL 19 18,oM 20 1,oB 21 .eql 19 20] (oD 21 (oR [oM 22 6,oM 4 22,oZ 5 true] .ret) .skip))) (.reg [oM 12 6,oC 13 .add 12 1,oM 6 13]))
def pL:FD:=⟨(oR [oQ 2 10 0,oJ 4 0,oZ 5 false] (.seq (oR [oJ 6 0] (.block 0 (.loop pJ))) (oR [oJ 4 0,oZ 5 false] .ret))),[(.tmp 4),(.tmp 5)],2,[]⟩
theorem OY:gD Tryz.prog 52 pL:=okF Tryz.func52
def aJ:C:=.seq (oR [oM 7 6,oF 8 5 2,oL 9 8,oH 10 9,oB 11 .lss 7 10] (oD 11 .skip (.exit 0))) (.seq (.block 1 (oR [oF 14 5 2,oL 15 14,oM 16 6,oI 17 2 15 16,oF 18 0 17,oL 19 18,oM 20 1,oB 21 .eql 19 20] (oD 21 (oR [oM 22 6,oM 4 22,oZ 5 true] .ret) .skip))) (.reg [oM 12 6,oC 13 .add 12 1,oM 6 13]))
def aL:FD:=⟨(oR [oQ 2 10 0,oJ 4 0,oZ 5 false] (.seq (oR [oJ 6 0] (.block 0 (.loop aJ))) (oR [oJ 4 0,oZ 5 false] .ret))),[(.tmp 4),(.tmp 5)],2,[]⟩
theorem PY:gD Tryz.prog 53 aL:=okF Tryz.func53
noncomputable def ZP:FD:=cF [] Tryz.f70
theorem eW:gD Tryz.prog 70 ZP:=okF Tryz.func70
noncomputable def NP:FD:=cF [113,1000000+102] Tryz.f71
theorem fW:gD Tryz.prog 71 NP:=okF Tryz.func71
def mN:FD:=⟨(oR [oQ 2 1 0,oJ 4 0] (oR [oF 5 0 2,oL 6 5,oM 7 1,oI 8 5 6 7,oF 9 0 8,oL 10 9,oS 11 (.bin .rem false (.t 10) (.c (.int .u8 9))),oS 12 (.conv (.some .i64) (.t 11)),oS 13 (.bin .add false (.c (.int .i64 1)) (.t 12)),oM 4 13] .ret)),[(.tmp 4)],2,[]⟩
theorem N2:gD Tryz.prog 29 mN:=okF Tryz.func29
def tP:FD:=⟨(oR [oQ 1 5 0,oJ 2 0] (oR [oF 3 1 1,oL 4 3,oS 5 (.bin .rem false (.t 4) (.c (.int .u8 7))),oS 6 (.conv (.some .i64) (.t 5)),oC 7 .sub 6 3,oM 2 7] .ret)),[(.tmp 2)],1,[]⟩
theorem T6:gD Tryz.prog 31 tP:=okF Tryz.func31
def nN:FD:=⟨(oR [oQ 1 5 0,oJ 2 0] (oR [oA 3 5 1,oC1 4 31 3,oF 5 2 1,oL 6 5,oS 7 (.bin .rem false (.t 6) (.c (.int .u8 6))),oS 8 (.conv (.some .i64) (.t 7)),oB 9 .add 4 8,oM 2 9] .ret)),[(.tmp 2)],1,[]⟩
theorem B2:gD Tryz.prog 32 nN:=okF Tryz.func32
def zJ:C:=.seq (oR [oM 5 4,oC 6 .lss 5 6] (oD 6 .skip (.exit 0))) (.seq (.block 1 (oR [oF 9 1 1,oL 10 9,oM 11 4,oB 12 .shr 10 11,oS 13 (.bin .rem false (.t 12) (.c (.int .u8 2))),oS 14 (.bin .eql false (.t 13) (.c (.int .u8 1)))] (oD 14 (.reg [oM 15 3,oM 16 4,oC 17 .add 16 1,oS 18 (.IA [(.int .i64 0)] 1 [(0,(.t 17))]),oAp 19 3 1 8 15 18,oM 3 19]) .skip))) (.reg [oM 7 4,oC 8 .add 7 1,oM 4 8]))
def eP:FD:=⟨(oR [oQ 1 5 0,oS 2 (.mv (.c (.sl true [])))] (oR [oS 3 (.mv (.c (.sl true [])))] (.seq (oR [oJ 4 0] (.block 0 (.loop zJ))) (.seq (oR [oM 20 3,oH 21 20,oC 22 .eql 21 0] (oD 22 (.reg [oM 23 3,oS 24 (.IA [(.int .i64 0)] 1 [(0,(.c (.int .i64 1)))]),oAp 25 3 1 8 23 24,oM 3 25]) .skip)) (oR [oM 26 3,oM 2 26] .ret))))),[(.tmp 2)],1,[]⟩
theorem E6:gD Tryz.prog 33 eP:=okF Tryz.func33
def KD:C:=.seq (oR [oM 23 10,oF 24 4 7,oL 25 24,oH 26 25,oB 27 .lss 23 26] (oD 27 .skip (.exit 2))) (.seq (.block 3 (oR [oF 30 4 7,oL 31 30,oM 32 10,oI 33 3 31 32,oA 34 3 33,oY 11 zzh,oV 3 11 34] (oR [oA 35 1 3,oM 36 1,oF 37 1 11,oL 38 37,oS 39 (.call .any 68 [(.t 35),(.t 36),(.t 38)]),oM 12 39] (.seq (oR [oF 40 0 11,oL 41 40,oS 42 (.bin .rem false (.t 41) (.c (.int .u8 12))),oS 43 (.conv (.some .i64) (.t 42)),oS 44 (.bin .add false (.c (.int .i64 1)) (.t 43)),oM 45 9,oB 46 .neq 44 45,oM 47 46,oMg 48 12 47 false,oCi 49 .lss 48 0 47 false,oPo 50 47 49] (oD 50 (.exit 3) .skip)) (oR [oM 51 9,oM 52 9,oS 53 (.bin .add false (.c (.int .i64 97)) (.t 52)),oS 54 (.conv (.some .i32) (.t 53)),oS 55 (.GB (.t 54)),oS 56 (.bin .add false (.c (.str (ByteArray.mk #[109]))) (.t 55)),oM 57 12,oS 58 (.build zzd [(0,(1,(.t 51))),(1,(1,(.t 56))),(2,(1,(.t 57)))]),oY 13 zzd,oV 13 13 58] (.seq (oR [oM 59 2,oM 60 59,oFg 61 2 11 60 true,oP 62 61 60 true,oG 63 (.bin .rem false (.t 62) (.c (.int .u8 4))) 60 true,oG 64 (.bin .eql false (.t 63) (.c (.int .u8 1))) 60 true,oPa 65 60 64] (oD 65 (.reg [oF 66 3 13,oN (.store .any false 1 (.t 66) (.c (.bool true)))]) .skip)) (.seq (oR [oM 67 2,oM 68 67,oFg 69 2 11 68 true,oP 70 69 68 true,oG 71 (.bin .rem false (.t 70) (.c (.int .u8 4))) 68 true,oG 72 (.bin .geq false (.t 71) (.c (.int .u8 2))) 68 true,oPa 73 68 72] (oD 73 (.reg [oA 75 1 3,oM 76 12,oF 77 2 11,oL 78 77,oS 79 (.bin .quo false (.t 78) (.c (.int .u8 4))),oS 80 (.call .any 69 [(.t 75),(.t 76),(.t 79)]),oM 74 80,oX 81 74 0,oX 82 74 1,oF 83 5 13,oV 8 83 81,oF 84 4 13,oW 84 82]) .skip)) (oR [oM 85 8,oA 86 13 13,oS 87 (.IA zzd 1 [(0,(.t 86))]),oS 88 (.RA .any 50 13 160 (.t 85) (.t 87)),oM 8 88] (.exit 2))))))))) (.reg [oM 28 10,oC 29 .add 28 1,oM 10 29]))
def NL:C:=.seq (oR [oM 19 9,oC 20 .leq 19 12] (oD 20 .skip (.exit 0))) (.seq (.block 1 (oR [oJ 10 0] (.block 2 (.loop KD)))) (.reg [oM 21 9,oC 22 .add 21 1,oM 9 22]))
def xM:FD:=⟨(oR [oQ 3 1 0,oS 6 (.mv (.c (.sl true [])))] (oR [oF 14 0 3,oL 15 14,oM 16 1,oI 17 5 15 16,oA 18 5 17,oY 7 zzf,oV 5 7 18] (oR [oS 8 (.mv (.c (.sl true [])))] (.seq (oR [oJ 9 1] (.block 0 (.loop NL))) (oR [oM 89 8,oM 6 89] .ret))))),[(.tmp 6)],3,[177]⟩
theorem G0:gD Tryz.prog 34 xM:=okF Tryz.func34
def dL:C:=.seq (oR [oM 11 6,oM 12 5,oB 13 .lss 11 12] (oD 13 .skip (.exit 0))) (.seq (.block 1 (oR [oM 16 1,oS 17 (.conv (.some .i64) (.t 16)),oM 18 6,oB 19 .add 17 18,oM 20 5,oB 21 .rem 19 20,oM 7 21] (oR [oA 22 1 2,oM 23 7,oC2 24 29 22 23,oC1 25 51 24] (oD 25 (oR [oM 26 7,oM 4 26] .ret) .skip)))) (.reg [oM 14 6,oC 15 .add 14 1,oM 6 15]))
def rP:FD:=⟨(oR [oQ 2 1 0,oJ 4 0] (oR [oF 8 0 2,oL 9 8,oH 10 9,oM 5 10] (.seq (oR [oJ 6 0] (.block 0 (.loop dL))) (oR [oJ 4 (-1)] .ret)))),[(.tmp 4)],2,[]⟩
theorem R6:gD Tryz.prog 35 rP:=okF Tryz.func35
def CG:C:=oR [oB 20 .lss 19 18] (.seq (oD 20 .skip (.exit 0)) (.seq (.block 1 (oR [oM 21 19,oM 3 21] (oR [oM 22 0,oM 23 3,oS 24 (.index (.t 22) (.t 23)),oC1 25 109 24,oU 26 25,oM 27 26,oMg 28 0 27 true,oMg 29 3 27 true,oG 30 (.index (.t 28) (.t 29)) 27 true,oG 31 (.call .any 110 [(.t 30)]) 27 true,oUg 32 31 27 true,oPa 33 27 32] (oD 33 (oR [oZ 2 false] .ret) .skip)))) (.reg [oC 34 .add 19 1,oM 19 34])))
def nH:FD:=⟨(oR [oZ 2 false] (.seq (oR [oM 4 0,oS 5 (.bin .eql false (.t 4) (.c (.str (ByteArray.mk #[])))),oM 6 5,oMg 7 0 6 false,oG 8 (.len true (.t 7)) 6 false,oCi 9 .gtr 8 24 6 false,oPo 10 6 9,oM 11 10,oMg 12 0 11 false,oG 13 (.index (.t 12) (.c (.int .i64 0))) 11 false,oG 14 (.call .any 109 [(.t 13)]) 11 false,oUg 15 14 11 false,oPo 16 11 15] (oD 16 (oR [oZ 2 false] .ret) .skip)) (.seq (oR [oM 17 0,oS 18 (.len true (.t 17)),oJ 19 0] (.block 0 (.loop CG))) (oR [oZ 2 true] .ret)))),[(.tmp 2)],1,[]⟩
theorem TY:gD Tryz.prog 78 nH:=okF Tryz.func78
def aI:C:=oR [oB 10 .lss 9 8] (.seq (oD 10 .skip (.exit 0)) (.seq (.block 1 (oR [oI 11 2 7 9,oA 12 2 11,oY 6 zze,oV 2 6 12] (.reg [oM 13 3,oF 14 0 6,oL 15 14,oS 16 (.IA [(.int .i64 0)] 1 [(0,(.t 15))]),oAp 17 3 1 8 13 16,oM 18 4,oF 19 1 6,oL 20 19,oS 21 (.IA [(.str (ByteArray.mk #[]))] 1 [(0,(.t 20))]),oAp 22 9 1 16 18 21,oM 3 17,oM 4 22]))) (.reg [oC 23 .add 9 1,oM 9 23])))
def FJ:FD:=⟨(oR [oZ 2 false] (oR [oS 3 (.mv (.c (.sl true [])))] (oR [oS 4 (.mv (.c (.sl true [])))] (.seq (oR [oM 7 0,oH 8 7,oJ 9 0] (.block 0 (.loop aI))) (oR [oM 24 0,oH 25 24,oC 26 .gtr 25 0,oM 27 26,oMg 28 3 27 true,oMg 29 4 27 true,oCg 30 111 28 29 27 true,oPa 31 27 30,oM 2 31] .ret))))),[(.tmp 2)],1,[]⟩
theorem dW:gD Tryz.prog 79 FJ:=okF Tryz.func79
def pI:C:=oR [oB 11 .lss 10 9] (.seq (oD 11 .skip (.exit 0)) (.seq (.block 1 (oR [oI 12 13 8 10,oA 13 13 12,oY 6 zzd,oV 13 6 13] (oR [oM 14 3,oF 15 0 6,oL 16 15,oS 17 (.IA [(.int .i64 0)] 1 [(0,(.t 16))]),oAp 18 3 1 8 14 17,oM 19 4,oF 20 1 6,oL 21 20,oS 22 (.IA [(.str (ByteArray.mk #[]))] 1 [(0,(.t 21))]),oAp 23 9 1 16 19 22,oM 3 18,oM 4 23] (oR [oF 24 0 1,oL 25 24,oC 26 .eql 25 6,oM 27 26,oFg 28 3 6 27 true,oP 29 28 27 true,oMg 30 29 27 true,oFg 31 4 6 30 false,oP 32 31 30 false,oG 33 (.pick (.t 30) (.c (.bool true)) (.t 32)) 27 true,oPa 34 27 33,oM 35 34,oFg 36 3 6 35 false,oP 37 36 35 false,oMg 38 37 35 false,oFg 39 4 6 38 true,oP 40 39 38 true,oPb 41 38 40 35 false,oPo 42 35 41,oM 43 42,oFg 44 4 6 43 false,oP 45 44 43 false,oUg 46 45 43 false,oMg 47 46 43 false,oFg 48 5 6 47 true,oLg 49 8 48 47 true,oG 50 (.call .any 112 [(.t 49)]) 47 true,oUg 51 50 47 true,oPb 52 47 51 43 false,oPo 53 43 52] (oD 53 (oR [oZ 2 false] .ret) .skip))))) (.reg [oC 54 .add 10 1,oM 10 54])))
def DJ:FD:=⟨(oR [oQ 1 10 0,oZ 2 false] (oR [oS 3 (.mv (.c (.sl true [])))] (oR [oS 4 (.mv (.c (.sl true [])))] (.seq (oR [oF 7 6 1,oL 8 7,oH 9 8,oJ 10 0] (.block 0 (.loop pI))) (oR [oF 55 0 1,oL 56 55,oC 57 .eql 56 5,oM 58 57,oMg 59 3 58 false,oHg 60 59 58 false,oCi 61 .gtr 60 0 58 false,oPo 62 58 61,oM 63 62,oMg 64 3 63 true,oMg 65 4 63 true,oCg 66 111 64 65 63 true,oPa 67 63 66,oM 2 67] .ret))))),[(.tmp 2)],1,[]⟩
theorem sW:gD Tryz.prog 80 DJ:=okF Tryz.func80
def IE:FD:=⟨(oR [oQ 2 10 0,oQ 3 10 1,oZ 4 false] (oR [oF 5 0 2,oL 6 5,oF 7 0 3,oL 8 7,oB 9 .eql 6 8,oM 10 9,oFg 11 1 2 10 true,oP 12 11 10 true,oFg 13 1 3 10 true,oP 14 13 10 true,oBg 15 .eql 12 14 10 true,oPa 16 10 15,oM 17 16,oFg 18 2 2 17 true,oP 19 18 17 true,oFg 20 2 3 17 true,oP 21 20 17 true,oBg 22 .eql 19 21 17 true,oPa 23 17 22,oM 24 23,oFg 25 3 2 24 true,oP 26 25 24 true,oFg 27 3 3 24 true,oP 28 27 24 true,oBg 29 .eql 26 28 24 true,oPa 30 24 29,oM 31 30,oFg 32 4 2 31 true,oP 33 32 31 true,oFg 34 4 3 31 true,oP 35 34 31 true,oBg 36 .eql 33 35 31 true,oPa 37 31 36,oM 38 37,oFg 39 7 2 38 true,oP 40 39 38 true,oFg 41 7 3 38 true,oP 42 41 38 true,oBg 43 .eql 40 42 38 true,oPa 44 38 43,oM 45 44,oFg 46 8 2 45 true,oP 47 46 45 true,oFg 48 8 3 45 true,oP 49 48 45 true,oBg 50 .eql 47 49 45 true,oPa 51 45 50,oM 52 51,oFg 53 9 2 52 true,oP 54 53 52 true,oFg 55 9 3 52 true,oP 56 55 52 true,oG 57 (.bin .eql true (.t 54) (.t 56)) 52 true,oPa 58 52 57,oM 59 58,oFg 60 5 2 59 true,oP 61 60 59 true,oFg 62 5 3 59 true,oP 63 62 59 true,oCg 64 113 61 63 59 true,oPa 65 59 64,oM 66 65,oFg 67 6 2 66 true,oP 68 67 66 true,oFg 69 6 3 66 true,oP 70 69 66 true,oG 71 (.call .any 114 [(.t 68),(.t 70),(.c (.fn 115 []))]) 66 true,oPa 72 66 71,oM 4 72] .ret)),[(.tmp 4)],2,[]⟩
theorem GY:gD Tryz.prog 81 IE:=okF Tryz.func81
def eF:C:=oR [oB 9 .lss 8 7] (.seq (oD 9 .skip (.exit 0)) (.seq (.block 1 (oR [oM 10 8,oM 5 10] (oR [oM 11 1,oM 12 0,oM 13 5,oI 14 13 12 13,oA 15 13 14,oS 16 (.JA .any (.t 11) [(.t 15)])] (oD 16 (oR [oM 17 5,oM 4 17] .ret) .skip)))) (.reg [oC 18 .add 8 1,oM 8 18])))
def TF:FD:=⟨(oR [oJ 4 0] (.seq (oR [oM 6 0,oH 7 6,oJ 8 0] (.block 0 (.loop eF))) (oR [oJ 4 (-1)] .ret))),[(.tmp 4)],2,[]⟩
theorem aM:gD Tryz.prog 82 TF:=okF Tryz.func82
def UI:FD:=⟨(oR [oQ 2 13 0,oZ 3 false] (oR [oF 4 0 2,oL 5 4,oL 6 1,oB 7 .eql 5 6,oM 3 7] .ret)),[(.tmp 3)],2,[]⟩
theorem TT:gD Tryz.prog 83 UI:=okF Tryz.func83
def rF:C:=oR [oB 9 .lss 8 7] (.seq (oD 9 .skip (.exit 0)) (.seq (.block 1 (oR [oM 10 8,oM 5 10] (oR [oM 11 1,oM 12 0,oM 13 5,oI 14 2 12 13,oA 15 2 14,oS 16 (.JA .any (.t 11) [(.t 15)])] (oD 16 (oR [oM 17 5,oM 4 17] .ret) .skip)))) (.reg [oC 18 .add 8 1,oM 8 18])))
def UF:FD:=⟨(oR [oJ 4 0] (.seq (oR [oM 6 0,oH 7 6,oJ 8 0] (.block 0 (.loop rF))) (oR [oJ 4 (-1)] .ret))),[(.tmp 4)],2,[]⟩
theorem sM:gD Tryz.prog 85 UF:=okF Tryz.func85
def II:FD:=⟨(oR [oQ 2 2 0,oZ 3 false] (oR [oF 4 0 2,oL 5 4,oL 6 1,oB 7 .eql 5 6,oM 3 7] .ret)),[(.tmp 3)],2,[]⟩
theorem UT:gD Tryz.prog 86 II:=okF Tryz.func86
def aK:FD:=⟨(oR [oQ 1 10 0,oY 2 zzb] (.seq (oR [oF 3 0 1,oL 4 3] (.block 0 (oR [oC 6 .eql 4 1,oM 5 6] (oD 5 (oR [oF 7 0 1,oL 8 7,oS 9 (.build zzb [(0,(1,(.t 8)))]),oV 10 2 9] .ret) (oR [oC 11 .eql 4 2,oM 10 11] (oD 10 (oR [oF 12 0 1,oL 13 12,oF 14 2 1,oL 15 14,oF 16 3 1,oL 17 16,oS 18 (.build zzb [(0,(1,(.t 13))),(2,(1,(.t 15))),(3,(1,(.t 17)))]),oV 10 2 18] .ret) (oR [oC 20 .eql 4 3,oM 19 20] (oD 19 (oR [oF 21 0 1,oL 22 21,oF 23 4 1,oL 24 23,oS 25 (.build zzb [(0,(1,(.t 22))),(4,(1,(.t 24)))]),oV 10 2 25] .ret) (oR [oC 27 .eql 4 4,oM 26 27] (oD 26 (oR [oF 28 0 1,oL 29 28,oF 30 1 1,oL 31 30,oF 32 5 1,oL 33 32,oF 34 9 1,oL 35 34,oS 36 (.build zzb [(0,(1,(.t 29))),(1,(1,(.t 31))),(5,(1,(.t 33))),(9,(1,(.t 35)))]),oV 10 2 36] .ret) (oR [oC 38 .eql 4 5,oM 37 38] (oD 37 (oR [oF 39 0 1,oL 40 39,oF 41 1 1,oL 42 41,oF 43 6 1,oL 44 43,oS 45 (.build zzb [(0,(1,(.t 40))),(1,(1,(.t 42))),(6,(1,(.t 44)))]),oV 10 2 45] .ret) (oR [oC 47 .eql 4 6,oM 46 47] (oD 46 (oR [oF 48 0 1,oL 49 48,oF 50 1 1,oL 51 50,oF 52 6 1,oL 53 52,oF 54 9 1,oL 55 54,oS 56 (.build zzb [(0,(1,(.t 49))),(1,(1,(.t 51))),(6,(1,(.t 53))),(9,(1,(.t 55)))]),oV 10 2 56] .ret) (oR [oC 58 .eql 4 7,oM 57 58] (oD 57 (oR [oF 59 0 1,oL 60 59,oF 61 4 1,oL 62 61,oF 63 8 1,oL 64 63,oS 65 (.build zzb [(0,(1,(.t 60))),(4,(1,(.t 62))),(8,(1,(.t 64)))]),oV 10 2 65] .ret) (oR [oC 67 .eql 4 8,oM 66 67] (oD 66 (oR [oF 68 0 1,oL 69 68,oF 70 4 1,oL 71 70,oF 72 7 1,oL 73 72,oF 74 8 1,oL 75 74,oS 76 (.build zzb [(0,(1,(.t 69))),(4,(1,(.t 71))),(7,(1,(.t 73))),(8,(1,(.t 75)))]),oV 10 2 76] .ret) .skip)))))))))))))))))) (oR [oF 77 0 1,oL 78 77,oF 79 8 1,oL 80 79,oS 81 (.build zzb [(0,(1,(.t 78))),(8,(1,(.t 80)))]),oV 10 2 81] .ret))),[(.cell 2 true 10)],1,[]⟩
theorem H0:gD Tryz.prog 87 aK:=okF Tryz.func87
def BG:C:=.seq (oR [oM 17 3,oM 18 0,oS 19 (.len true (.t 18)),oB 20 .lss 17 19] (oD 20 .skip (.exit 0))) (.seq (.block 1 (oR [oM 23 0,oM 24 3,oS 25 (.index (.t 23) (.t 24)),oC1 26 119 25,oU 27 26,oM 28 27,oMg 29 0 28 true,oMg 30 3 28 true,oG 31 (.index (.t 29) (.t 30)) 28 true,oG 32 (.call .any 120 [(.t 31)]) 28 true,oUg 33 32 28 true,oPa 34 28 33] (oD 34 (oR [oZ 2 false] .ret) .skip))) (.reg [oM 21 3,oC 22 .add 21 1,oM 3 22]))
def mH:FD:=⟨(oR [oZ 2 false] (.seq (oR [oM 4 0,oS 5 (.bin .eql false (.t 4) (.c (.str (ByteArray.mk #[])))),oM 6 5,oMg 7 0 6 false,oG 8 (.len true (.t 7)) 6 false,oCi 9 .gtr 8 24 6 false,oPo 10 6 9,oM 11 10,oMg 12 0 11 false,oG 13 (.index (.t 12) (.c (.int .i64 0))) 11 false,oG 14 (.call .any 119 [(.t 13)]) 11 false,oUg 15 14 11 false,oPo 16 11 15] (oD 16 (oR [oZ 2 false] .ret) .skip)) (.seq (oR [oJ 3 0] (.block 0 (.loop BG))) (oR [oZ 2 true] .ret)))),[(.tmp 2)],1,[]⟩
theorem UY:gD Tryz.prog 88 mH:=okF Tryz.func88
def OI:C:=.seq (oR [oM 29 5,oM 30 4,oB 31 .lss 29 30] (oD 31 .skip (.exit 2))) (.seq (.block 3 (oR [oM 34 0,oM 35 5,oI 36 2 34 35,oF 37 1 36,oL 38 37,oM 39 0,oM 40 4,oI 41 2 39 40,oF 42 1 41,oL 43 42,oB 44 .eql 38 43] (oD 44 (oR [oZ 2 false] .ret) .skip))) (.reg [oM 32 5,oC 33 .add 32 1,oM 5 33]))
def EH:C:=.seq (oR [oM 6 4,oM 7 0,oH 8 7,oB 9 .lss 6 8] (oD 9 .skip (.exit 0))) (.seq (.block 1 (.seq (oR [oM 12 3,oM 13 0,oM 14 4,oI 15 2 13 14,oF 16 0 15,oL 17 16,oC2 18 121 12 17,oU 19 18,oM 20 19,oMg 21 0 20 false,oMg 22 4 20 false,oIg 23 2 21 22 20 false,oFg 24 1 23 20 false,oP 25 24 20 false,oG 26 (.call .any 88 [(.t 25)]) 20 false,oUg 27 26 20 false,oPo 28 20 27] (oD 28 (oR [oZ 2 false] .ret) .skip)) (.seq (oR [oJ 5 0] (.block 2 (.loop OI))) (.reg [oM 45 0,oM 46 4,oI 47 2 45 46,oF 48 0 47,oL 49 48,oM 3 49])))) (.reg [oM 10 4,oC 11 .add 10 1,oM 4 11]))
def EK:FD:=⟨(oR [oZ 2 false] (oR [oJ 3 0] (.seq (oR [oJ 4 0] (.block 0 (.loop EH))) (oR [oM 50 0,oH 51 50,oC 52 .geq 51 1,oM 53 52,oMg 54 0 53 true,oHg 55 54 53 true,oCi 56 .leq 55 16 53 true,oPa 57 53 56,oM 2 57] .ret)))),[(.tmp 2)],1,[]⟩
theorem mX:gD Tryz.prog 89 EK:=okF Tryz.func89
def WH:C:=.seq (oR [oM 60 8,oM 61 6,oB 62 .lss 60 61] (oD 62 .skip (.exit 2))) (.seq (.block 3 (oR [oM 65 0,oM 66 8,oI 67 13 65 66,oF 68 1 67,oL 69 68,oF 70 1 7,oL 71 70,oB 72 .eql 69 71] (oD 72 (oR [oZ 4 false] .ret) .skip))) (.reg [oM 63 8,oC 64 .add 63 1,oM 8 64]))
def RG:C:=.seq (oR [oM 9 6,oM 10 0,oH 11 10,oB 12 .lss 9 11] (oD 12 .skip (.exit 0))) (.seq (.block 1 (oR [oM 15 0,oM 16 6,oI 17 13 15 16,oA 18 13 17,oY 7 zzd,oV 13 7 18] (.seq (oR [oM 19 5,oF 20 0 7,oL 21 20,oC2 22 121 19 21,oU 23 22,oM 24 23,oFg 25 1 7 24 false,oP 26 25 24 false,oG 27 (.call .any 88 [(.t 26)]) 24 false,oUg 28 27 24 false,oPo 29 24 28,oM 30 29,oFg 31 3 7 30 false,oP 32 31 30 false,oMg 33 32 30 false,oFg 34 4 7 33 true,oP 35 34 33 true,oPb 36 33 35 30 false,oPo 37 30 36,oM 38 37,oMg 39 1 38 false,oUg 40 39 38 false,oMg 41 40 38 false,oFg 42 3 7 41 true,oP 43 42 41 true,oMg 44 43 41 true,oFg 45 4 7 44 false,oP 46 45 44 false,oG 47 (.pick (.t 44) (.c (.bool true)) (.t 46)) 41 true,oPb 48 41 47 38 false,oPo 49 38 48] (oD 49 (oR [oZ 4 false] .ret) .skip)) (.seq (oR [oF 50 4 7,oL 51 50,oU 52 51,oM 53 52,oFg 54 5 7 53 true,oLg 55 8 54 53 true,oG 56 (.build zzc []) 53 true,oCg 57 95 55 56 53 true,oUg 58 57 53 true,oPa 59 53 58] (oD 59 (oR [oZ 4 false] .ret) .skip)) (.seq (oR [oJ 8 0] (.block 2 (.loop WH))) (.reg [oF 73 0 7,oL 74 73,oM 5 74])))))) (.reg [oM 13 6,oC 14 .add 13 1,oM 6 14]))
def WK:FD:=⟨(oR [oZ 4 false] (oR [oJ 5 0] (.seq (oR [oJ 6 0] (.block 0 (.loop RG))) (oR [oM 75 0,oH 76 75,oC 77 .leq 76 16,oM 78 77,oMg 79 1 78 true,oMg 80 79 78 true,oMg 81 0 80 false,oHg 82 81 80 false,oCi 83 .geq 82 1 80 false,oG 84 (.pick (.t 80) (.c (.bool true)) (.t 83)) 78 true,oPa 85 78 84,oM 4 85] .ret)))),[(.tmp 4)],2,[]⟩
theorem nX:gD Tryz.prog 90 WK:=okF Tryz.func90
def wG:C:=.seq (oR [oM 48 5,oF 49 7 2,oL 50 49,oH 51 50,oB 52 .lss 48 51] (oD 52 .skip (.exit 0))) (.seq (.block 1 (oR [oF 55 7 2,oL 56 55,oM 57 5,oI 58 2 56 57,oA 59 2 58,oF 60 7 3,oL 61 60,oM 62 5,oI 63 2 61 62,oA 64 2 63,oS 65 (.QC true [0,1] (.t 59) (.t 64))] (oD 65 (oR [oZ 4 false] .ret) .skip))) (.reg [oM 53 5,oC 54 .add 53 1,oM 5 54]))
def SE:FD:=⟨(oR [oQ 2 8 0,oQ 3 8 1,oZ 4 false] (.seq (oR [oF 6 0 2,oL 7 6,oF 8 0 3,oL 9 8,oB 10 .neq 7 9,oM 11 10,oFg 12 1 2 11 false,oP 13 12 11 false,oFg 14 1 3 11 false,oP 15 14 11 false,oG 16 (.bin .neq true (.t 13) (.t 15)) 11 false,oPo 17 11 16,oM 18 17,oFg 19 2 2 18 false,oP 20 19 18 false,oFg 21 2 3 18 false,oP 22 21 18 false,oBg 23 .neq 20 22 18 false,oPo 24 18 23,oM 25 24,oFg 26 3 2 25 false,oP 27 26 25 false,oFg 28 3 3 25 false,oP 29 28 25 false,oBg 30 .neq 27 29 25 false,oPo 31 25 30,oM 32 31,oFg 33 4 2 32 false,oP 34 33 32 false,oFg 35 4 3 32 false,oP 36 35 32 false,oBg 37 .neq 34 36 32 false,oPo 38 32 37,oM 39 38,oFg 40 7 2 39 false,oP 41 40 39 false,oHg 42 41 39 false,oFg 43 7 3 39 false,oP 44 43 39 false,oHg 45 44 39 false,oBg 46 .neq 42 45 39 false,oPo 47 39 46] (oD 47 (oR [oZ 4 false] .ret) .skip)) (.seq (oR [oJ 5 0] (.block 0 (.loop wG))) (oR [oF 66 5 2,oL 67 66,oF 68 5 3,oL 69 68,oC2 70 124 67 69,oM 71 70,oFg 72 6 2 71 true,oP 73 72 71 true,oFg 74 6 3 71 true,oP 75 74 71 true,oCg 76 124 73 75 71 true,oPa 77 71 76,oM 4 77] .ret)))),[(.tmp 4)],2,[]⟩
theorem TU:gD Tryz.prog 95 SE:=okF Tryz.func95
def SF:FD:=⟨(oR [oQ 2 8 0,oQ 3 8 1,oZ 4 false] (oR [oF 5 0 2,oL 6 5,oF 7 0 3,oL 8 7,oB 9 .eql 6 8,oM 10 9,oFg 11 1 2 10 true,oP 12 11 10 true,oFg 13 1 3 10 true,oP 14 13 10 true,oG 15 (.bin .eql true (.t 12) (.t 14)) 10 true,oPa 16 10 15,oM 17 16,oFg 18 2 2 17 true,oP 19 18 17 true,oFg 20 2 3 17 true,oP 21 20 17 true,oBg 22 .eql 19 21 17 true,oPa 23 17 22,oM 24 23,oFg 25 3 2 24 true,oP 26 25 24 true,oFg 27 3 3 24 true,oP 28 27 24 true,oBg 29 .eql 26 28 24 true,oPa 30 24 29,oM 31 30,oFg 32 4 2 31 true,oP 33 32 31 true,oFg 34 4 3 31 true,oP 35 34 31 true,oBg 36 .eql 33 35 31 true,oPa 37 31 36,oM 38 37,oFg 39 7 2 38 true,oP 40 39 38 true,oFg 41 7 3 38 true,oP 42 41 38 true,oCg 43 117 40 42 38 true,oPa 44 38 43,oM 45 44,oFg 46 5 2 45 true,oP 47 46 45 true,oFg 48 5 3 45 true,oP 49 48 45 true,oG 50 (.call .any 118 [(.t 47),(.t 49),(.c (.fn 84 []))]) 45 true,oPa 51 45 50,oM 52 51,oFg 53 6 2 52 true,oP 54 53 52 true,oFg 55 6 3 52 true,oP 56 55 52 true,oG 57 (.call .any 118 [(.t 54),(.t 56),(.c (.fn 84 []))]) 52 true,oPa 58 52 57,oM 4 58] .ret)),[(.tmp 4)],2,[]⟩
theorem X0:gD Tryz.prog 84 SF:=okF Tryz.func84
noncomputable def zR:FD:=cF [] Tryz.f97
theorem dX:gD Tryz.prog 97 zR:=okF Tryz.func97
noncomputable def XP:FD:=cF [] Tryz.f98
theorem rW:gD Tryz.prog 98 XP:=okF Tryz.func98
noncomputable def WR:FD:=cF [] Tryz.f99
theorem RX:gD Tryz.prog 99 WR:=okF Tryz.func99
noncomputable def iO:FD:=cF [] Tryz.f100
theorem GT:gD Tryz.prog 100 iO:=okF Tryz.func100
noncomputable def uP:FD:=cF [] Tryz.f101
theorem IU:gD Tryz.prog 101 uP:=okF Tryz.func101
noncomputable def GK:FD:=cF [8000000] Tryz.f102
theorem EP:gD Tryz.prog 102 GK:=okF Tryz.func102
def sJ:C:=.seq (oR [oM 32 9,oM 33 7,oB 34 .lss 32 33] (oD 34 .skip (.exit 0))) (.seq (.block 1 (oR [oA 37 1 3,oM 38 9,oC2 39 29 37 38,oC1 40 96 39] (oD 40 (oR [oM 41 9,oM 6 41] .ret) .skip))) (.reg [oM 35 9,oC 36 .add 35 1,oM 9 36]))
def RH:FD:=⟨(oR [oQ 3 1 0,oJ 6 0] (oR [oF 10 0 3,oL 11 10,oH 12 11,oM 7 12] (oR [oM 13 2,oS 14 (.conv (.some .i64) (.t 13)),oM 15 7,oB 16 .rem 14 15,oM 8 16] (.seq (oR [oA 17 1 3,oM 18 8,oC2 19 29 17 18,oC1 20 96 19,oM 21 20,oMg 22 8 21 false,oMg 23 1 21 false,oBg 24 .lss 22 23 21 false,oPo 25 21 24] (oD 25 (oR [oM 26 8,oM 6 26] .ret) .skip)) (.seq (oR [oM 27 1,oC 28 .gtr 27 0] (oD 28 (oR [oM 29 8,oM 30 1,oB 31 .rem 29 30,oM 6 31] .ret) .skip)) (.seq (oR [oJ 9 0] (.block 0 (.loop sJ))) (oR [oJ 6 (-1)] .ret))))))),[(.tmp 6)],3,[]⟩
theorem SY:gD Tryz.prog 68 RH:=okF Tryz.func68
def UE:FD:=⟨(oR [oQ 3 1 0,oY 6 zzc,oZ 7 false] (oR [oF 10 0 3,oL 11 10,oM 12 1,oI 13 5 11 12,oA 14 5 13,oY 8 zzf,oV 5 8 14] (oR [oA 15 1 3,oM 16 1,oC2 17 29 15 16,oS 18 (.build zzc [(0,(1,(.t 17)))]),oY 9 zzc,oV 8 9 18] (.seq (oR [oF 19 0 9,oL 20 19,oC 21 .eql 20 8,oM 22 21,oLg 23 1 3 22 true,oG 24 (.call .any 35 [(.t 23),(.c (.int .u8 0))]) 22 true,oCi 25 .lss 24 0 22 true,oPa 26 22 25] (oD 26 (.reg [oF 27 0 9,oN (.store .any false 1 (.t 27) (.c (.int .i64 7)))]) .skip)) (.seq (oR [oF 28 0 9,oL 29 28] (.block 0 (oR [oC 31 .eql 29 1,oM 30 31] (oD 30 (.reg [oM 32 2,oS 33 (.bin .rem false (.t 32) (.c (.int .u8 2))),oS 34 (.bin .eql false (.t 33) (.c (.int .u8 1))),oF 35 1 9,oW 35 34]) (oR [oC 37 .eql 29 2,oM 36 37] (oD 36 (.reg [oS 38 (.load (.root 8) true 5 (.t 8)),oS 39 (.call .KB 31 [(.t 38)]),oM 40 2,oS 41 (.conv (.some .i64) (.t 40)),oS 42 (.load (.root 8) true 5 (.t 8)),oS 43 (.call .KB 32 [(.t 42)]),oS 44 (.load (.root 8) true 5 (.t 8)),oS 45 (.call .KB 31 [(.t 44)]),oB 46 .sub 43 45,oC 47 .add 46 1,oB 48 .rem 41 47,oB 49 .add 39 48,oF 50 2 9,oN (.store (.root 9) false 1 (.t 50) (.t 49))]) (oR [oC 52 .eql 29 3,oM 51 52] (oD 51 (oR [oF 53 1 8,oL 54 53,oS 55 (.bin .rem false (.t 54) (.c (.int .u8 4))),oS 56 (.bin .gtr false (.t 55) (.c (.int .u8 0))),oM 57 56,oMg 58 2 57 true,oG 59 (.bin .rem false (.t 58) (.c (.int .u8 2))) 57 true,oG 60 (.bin .eql false (.t 59) (.c (.int .u8 1))) 57 true,oPa 61 57 60] (oD 61 (.reg [oF 62 3 9,oN (.store .any false 1 (.t 62) (.c (.str (ByteArray.mk #[97]))))]) .skip)) (oR [oC 64 .eql 29 4,oM 63 64] (oD 63 (.reg [oS 65 (.load (.root 8) true 5 (.t 8)),oS 66 (.call .KB 33 [(.t 65)]),oM 67 2,oS 68 (.conv (.some .i64) (.t 67)),oS 69 (.load (.root 8) true 5 (.t 8)),oS 70 (.call .KB 33 [(.t 69)]),oH 71 70,oB 72 .rem 68 71,oI 73 1 66 72,oS 74 (.load .KB false 1 (.t 73)),oF 75 4 9,oN (.store (.root 9) false 1 (.t 75) (.t 74))]) (.seq (oR [oC 77 .eql 29 5,oM 76 77] (oD 76 .skip (.reg [oC 78 .eql 29 6,oM 76 78]))) (oD 76 (oR [oS 79 (.build zzc []),oV 8 6 79,oZ 7 false] .ret) .skip)))))))))))) (oR [oA 80 8 9,oV 8 6 80,oZ 7 true] .ret)))))),[(.cell 6 true 8),(.tmp 7)],3,[]⟩
theorem bX:gD Tryz.prog 69 UE:=okF Tryz.func69
def AJ:FD:=⟨(oR [oZ 2 false] (oR [oM 3 0,oS 4 (.bin .eql false (.t 3) (.c (.int .u8 95))),oM 5 4,oMg 6 0 5 false,oG 7 (.bin .geq false (.t 6) (.c (.int .u8 97))) 5 false,oMg 8 7 5 false,oMg 9 0 8 true,oG 10 (.bin .leq false (.t 9) (.c (.int .u8 122))) 8 true,oPb 11 8 10 5 false,oPo 12 5 11,oM 13 12,oMg 14 0 13 false,oG 15 (.bin .geq false (.t 14) (.c (.int .u8 65))) 13 false,oMg 16 15 13 false,oMg 17 0 16 true,oG 18 (.bin .leq false (.t 17) (.c (.int .u8 90))) 16 true,oPb 19 16 18 13 false,oPo 20 13 19,oM 2 20] .ret)),[(.tmp 2)],1,[]⟩
theorem tW:gD Tryz.prog 109 AJ:=okF Tryz.func109
def mK:FD:=⟨(oR [oZ 2 false] (oR [oM 3 0,oS 4 (.bin .geq false (.t 3) (.c (.int .u8 48))),oM 5 4,oMg 6 0 5 true,oG 7 (.bin .leq false (.t 6) (.c (.int .u8 57))) 5 true,oPa 8 5 7,oM 2 8] .ret)),[(.tmp 2)],1,[]⟩
theorem jX:gD Tryz.prog 110 mK:=okF Tryz.func110
def dE:C:=oR [oB 12 .lss 11 10] (.seq (oD 12 .skip (.exit 0)) (.seq (.block 1 (oR [oM 13 11,oI 14 1 9 11,oL 15 14,oM 6 13,oM 7 15] (.seq (oR [oM 16 7,oC 17 .lss 16 1,oM 18 17,oMg 19 7 18 false,oCi 20 .gtr 19 1000 18 false,oPo 21 18 20,oM 22 21,oMg 23 6 22 false,oCi 24 .gtr 23 0 22 false,oMg 25 24 22 false,oMg 26 7 25 true,oMg 27 0 25 true,oMg 28 6 25 true,oCi 29 .sub 28 1 25 true,oIg 30 1 27 29 25 true,oP 31 30 25 true,oBg 32 .leq 26 31 25 true,oPb 33 25 32 22 false,oPo 34 22 33,oM 35 34,oMg 36 5 35 false,oMg 37 1 35 false,oMg 38 6 35 false,oIg 39 1 37 38 35 false,oP 40 39 35 false,oG 41 (.LB false .none (.bool false) (.t 36) (.t 40)) 35 false,oPo 42 35 41,oM 43 42,oMg 44 1 43 false,oMg 45 6 43 false,oIg 46 1 44 45 43 false,oP 47 46 43 false,oG 48 (.call .any 78 [(.t 47)]) 43 false,oUg 49 48 43 false,oPo 50 43 49] (oD 50 (oR [oZ 4 false] .ret) .skip)) (.reg [oM 51 5,oM 52 1,oM 53 6,oI 54 1 52 53,oL 55 54,oN (.HB .none (.t 51) (.t 55) (.c (.bool true)))])))) (.reg [oC 56 .add 11 1,oM 11 56])))
def WN:FD:=⟨(oR [oZ 4 false] (oR [oS 8 (.OC),oM 5 8] (.seq (oR [oM 9 0,oH 10 9,oJ 11 0] (.block 0 (.loop dE))) (oR [oM 57 0,oH 58 57,oC 59 .leq 58 16,oM 4 59] .ret)))),[(.tmp 4)],2,[]⟩
theorem Q3:gD Tryz.prog 111 WN:=okF Tryz.func111
def fL:FD:=⟨(oR [oQ 1 8 0,oZ 2 false] (oR [oA 3 8 1,oS 4 (.build zzc []),oC2 5 116 3 4,oM 2 5] .ret)),[(.tmp 2)],1,[]⟩
theorem FY:gD Tryz.prog 112 fL:=okF Tryz.func112
def fE:C:=oR [oB 14 .lss 13 12] (.seq (oD 14 .skip (.exit 0)) (.seq (.block 1 (oR [oM 15 13,oM 5 15] (oR [oM 16 0,oM 17 5,oI 18 2 16 17,oA 19 2 18,oM 20 1,oM 21 5,oI 22 2 20 21,oA 23 2 22,oS 24 (.QC true [0,1] (.t 19) (.t 23))] (oD 24 (oR [oZ 4 false] .ret) .skip)))) (.reg [oC 25 .add 13 1,oM 13 25])))
def QF:FD:=⟨(oR [oZ 4 false] (.seq (oR [oM 6 0,oH 7 6,oM 8 1,oH 9 8,oB 10 .neq 7 9] (oD 10 (oR [oZ 4 false] .ret) .skip)) (.seq (oR [oM 11 0,oH 12 11,oJ 13 0] (.block 0 (.loop fE))) (oR [oZ 4 true] .ret)))),[(.tmp 4)],2,[]⟩
theorem mO:gD Tryz.prog 113 QF:=okF Tryz.func113
def lE:C:=oR [oB 18 .lss 17 16] (.seq (oD 18 .skip (.exit 0)) (.seq (.block 1 (oR [oM 19 17,oI 20 13 15 17,oA 21 13 20,oY 8 zzd,oM 7 19,oV 13 8 21] (oR [oM 22 1,oM 23 7,oI 24 13 22 23,oA 25 13 24,oY 9 zzd,oV 13 9 25] (oR [oM 26 2,oA 27 13 8,oA 28 13 9,oS 29 (.JA .any (.t 26) [(.t 27),(.t 28)]),oU 30 29] (oD 30 (oR [oZ 6 false] .ret) .skip))))) (.reg [oC 31 .add 17 1,oM 17 31])))
def GE:FD:=⟨(oR [oZ 6 false] (.seq (oR [oM 10 0,oH 11 10,oM 12 1,oH 13 12,oB 14 .neq 11 13] (oD 14 (oR [oZ 6 false] .ret) .skip)) (.seq (oR [oM 15 0,oH 16 15,oJ 17 0] (.block 0 (.loop lE))) (oR [oZ 6 true] .ret)))),[(.tmp 6)],3,[]⟩
theorem pM:gD Tryz.prog 114 GE:=okF Tryz.func114
def qF:FD:=⟨(oR [oQ 2 13 0,oQ 3 13 1,oZ 4 false] (oR [oF 5 0 2,oL 6 5,oF 7 0 3,oL 8 7,oB 9 .eql 6 8,oM 10 9,oFg 11 1 2 10 true,oP 12 11 10 true,oFg 13 1 3 10 true,oP 14 13 10 true,oBg 15 .eql 12 14 10 true,oPa 16 10 15,oM 17 16,oFg 18 2 2 17 true,oP 19 18 17 true,oFg 20 2 3 17 true,oP 21 20 17 true,oBg 22 .eql 19 21 17 true,oPa 23 17 22,oM 24 23,oFg 25 3 2 24 true,oP 26 25 24 true,oFg 27 3 3 24 true,oP 28 27 24 true,oG 29 (.bin .eql true (.t 26) (.t 28)) 24 true,oPa 30 24 29,oM 31 30,oFg 32 4 2 31 true,oP 33 32 31 true,oFg 34 4 3 31 true,oP 35 34 31 true,oG 36 (.bin .eql true (.t 33) (.t 35)) 31 true,oPa 37 31 36,oM 38 37,oFg 39 5 2 38 true,oLg 40 8 39 38 true,oFg 41 5 3 38 true,oLg 42 8 41 38 true,oCg 43 116 40 42 38 true,oPa 44 38 43,oM 4 44] .ret)),[(.tmp 4)],2,[]⟩
theorem UU:gD Tryz.prog 115 qF:=okF Tryz.func115
def AF:FD:=⟨(oR [oQ 2 8 0,oQ 3 8 1,oZ 4 false] (oR [oF 5 0 2,oL 6 5,oF 7 0 3,oL 8 7,oB 9 .eql 6 8,oM 10 9,oFg 11 1 2 10 true,oP 12 11 10 true,oFg 13 1 3 10 true,oP 14 13 10 true,oG 15 (.bin .eql true (.t 12) (.t 14)) 10 true,oPa 16 10 15,oM 17 16,oFg 18 2 2 17 true,oP 19 18 17 true,oFg 20 2 3 17 true,oP 21 20 17 true,oBg 22 .eql 19 21 17 true,oPa 23 17 22,oM 24 23,oFg 25 3 2 24 true,oP 26 25 24 true,oFg 27 3 3 24 true,oP 28 27 24 true,oBg 29 .eql 26 28 24 true,oPa 30 24 29,oM 31 30,oFg 32 4 2 31 true,oP 33 32 31 true,oFg 34 4 3 31 true,oP 35 34 31 true,oBg 36 .eql 33 35 31 true,oPa 37 31 36,oM 38 37,oFg 39 7 2 38 true,oP 40 39 38 true,oFg 41 7 3 38 true,oP 42 41 38 true,oCg 43 117 40 42 38 true,oPa 44 38 43,oM 45 44,oFg 46 5 2 45 true,oP 47 46 45 true,oFg 48 5 3 45 true,oP 49 48 45 true,oG 50 (.call .any 118 [(.t 47),(.t 49),(.c (.fn 116 []))]) 45 true,oPa 51 45 50,oM 52 51,oFg 53 6 2 52 true,oP 54 53 52 true,oFg 55 6 3 52 true,oP 56 55 52 true,oG 57 (.call .any 118 [(.t 54),(.t 56),(.c (.fn 116 []))]) 52 true,oPa 58 52 57,oM 4 58] .ret)),[(.tmp 4)],2,[]⟩
theorem K0:gD Tryz.prog 116 AF:=okF Tryz.func116
def iL:FD:=⟨(oR [oZ 2 false] (oR [oM 3 0,oS 4 (.bin .geq false (.t 3) (.c (.int .u8 97))),oM 5 4,oMg 6 0 5 true,oG 7 (.bin .leq false (.t 6) (.c (.int .u8 122))) 5 true,oPa 8 5 7,oM 9 8,oMg 10 0 9 false,oG 11 (.bin .geq false (.t 10) (.c (.int .u8 65))) 9 false,oMg 12 11 9 false,oMg 13 0 12 true,oG 14 (.bin .leq false (.t 13) (.c (.int .u8 90))) 12 true,oPb 15 12 14 9 false,oPo 16 9 15,oM 17 16,oMg 18 0 17 false,oG 19 (.bin .eql false (.t 18) (.c (.int .u8 95))) 17 false,oPo 20 17 19,oM 2 20] .ret)),[(.tmp 2)],1,[]⟩
theorem IY:gD Tryz.prog 119 iL:=okF Tryz.func119
def lM:FD:=⟨(oR [oZ 2 false] (oR [oM 3 0,oS 4 (.bin .geq false (.t 3) (.c (.int .u8 48))),oM 5 4,oMg 6 0 5 true,oG 7 (.bin .leq false (.t 6) (.c (.int .u8 57))) 5 true,oPa 8 5 7,oM 2 8] .ret)),[(.tmp 2)],1,[]⟩
theorem I0:gD Tryz.prog 120 lM:=okF Tryz.func120
def UQ:FD:=⟨(oR [oZ 4 false] (oR [oM 5 1,oM 6 0,oB 7 .gtr 5 6,oM 8 7,oMg 9 1 8 true,oCi 10 .geq 9 1 8 true,oPa 11 8 10,oM 12 11,oMg 13 1 12 true,oCi 14 .leq 13 1000 12 true,oPa 15 12 14,oM 4 15] .ret)),[(.tmp 4)],2,[]⟩
theorem P8:gD Tryz.prog 121 UQ:=okF Tryz.func121
def nG:C:=.seq (oR [oM 11 5,oM 12 0,oH 13 12,oB 14 .lss 11 13] (oD 14 .skip (.exit 0))) (.seq (.block 1 (oR [oM 17 0,oM 18 5,oI 19 8 17 18,oA 20 8 19,oM 21 1,oM 22 5,oI 23 8 21 22,oA 24 8 23,oC2 25 95 20 24,oU 26 25] (oD 26 (oR [oZ 4 false] .ret) .skip))) (.reg [oM 15 5,oC 16 .add 15 1,oM 5 16]))
def QH:FD:=⟨(oR [oZ 4 false] (.seq (oR [oM 6 0,oH 7 6,oM 8 1,oH 9 8,oB 10 .neq 7 9] (oD 10 (oR [oZ 4 false] .ret) .skip)) (.seq (oR [oJ 5 0] (.block 0 (.loop nG))) (oR [oZ 4 true] .ret)))),[(.tmp 4)],2,[]⟩
theorem IT:gD Tryz.prog 124 QH:=okF Tryz.func124
def KE:C:=oR [oB 14 .lss 13 12] (.seq (oD 14 .skip (.exit 0)) (.seq (.block 1 (oR [oM 15 13,oM 5 15] (oR [oM 16 0,oM 17 5,oI 18 2 16 17,oA 19 2 18,oM 20 1,oM 21 5,oI 22 2 20 21,oA 23 2 22,oS 24 (.QC true [0,1] (.t 19) (.t 23))] (oD 24 (oR [oZ 4 false] .ret) .skip)))) (.reg [oC 25 .add 13 1,oM 13 25])))
def aG:FD:=⟨(oR [oZ 4 false] (.seq (oR [oM 6 0,oH 7 6,oM 8 1,oH 9 8,oB 10 .neq 7 9] (oD 10 (oR [oZ 4 false] .ret) .skip)) (.seq (oR [oM 11 0,oH 12 11,oJ 13 0] (.block 0 (.loop KE))) (oR [oZ 4 true] .ret)))),[(.tmp 4)],2,[]⟩
theorem bQ:gD Tryz.prog 117 aG:=okF Tryz.func117
def nE:C:=oR [oB 18 .lss 17 16] (.seq (oD 18 .skip (.exit 0)) (.seq (.block 1 (oR [oM 19 17,oI 20 8 15 17,oA 21 8 20,oY 8 zzc,oM 7 19,oV 8 8 21] (oR [oM 22 1,oM 23 7,oI 24 8 22 23,oA 25 8 24,oY 9 zzc,oV 8 9 25] (oR [oM 26 2,oA 27 8 8,oA 28 8 9,oS 29 (.JA .any (.t 26) [(.t 27),(.t 28)]),oU 30 29] (oD 30 (oR [oZ 6 false] .ret) .skip))))) (.reg [oC 31 .add 17 1,oM 17 31])))
def XE:FD:=⟨(oR [oZ 6 false] (.seq (oR [oM 10 0,oH 11 10,oM 12 1,oH 13 12,oB 14 .neq 11 13] (oD 14 (oR [oZ 6 false] .ret) .skip)) (.seq (oR [oM 15 0,oH 16 15,oJ 17 0] (.block 0 (.loop nE))) (oR [oZ 6 true] .ret)))),[(.tmp 6)],3,[]⟩
theorem HM:gD Tryz.prog 118 XE:=okF Tryz.func118
noncomputable def wQ:FD:=cF [] Tryz.f125
theorem jW:gD Tryz.prog 125 wQ:=okF Tryz.func125
noncomputable def lR:FD:=cF [] Tryz.f126
theorem sX:gD Tryz.prog 126 lR:=okF Tryz.func126
noncomputable def qQ:FD:=cF [] Tryz.f127
theorem gW:gD Tryz.prog 127 qQ:=okF Tryz.func127
noncomputable def AL:FD:=cF [2000049,2000068,2000092] Tryz.f128
theorem NQ:gD Tryz.prog 128 AL:=okF Tryz.func128
noncomputable def ER:FD:=cF [] Tryz.f129
theorem TX:gD Tryz.prog 129 ER:=okF Tryz.func129
noncomputable def tO:FD:=cF [] Tryz.f130
theorem DT:gD Tryz.prog 130 tO:=okF Tryz.func130
noncomputable def uO:FD:=cF [] Tryz.f131
theorem FT:gD Tryz.prog 131 uO:=okF Tryz.func131
noncomputable def MO:FD:=cF [] Tryz.f133
theorem WU:gD Tryz.prog 133 MO:=okF Tryz.func133
def sL:FD:=⟨(oR [oZ 2 false] (oR [oM 3 0,oC 4 .geq 3 7,oM 2 4] .ret)),[(.tmp 2)],1,[]⟩
theorem AY:gD Tryz.prog 96 sL:=okF Tryz.func96
noncomputable def MT:FD:=cF [] Tryz.f141
theorem C0:gD Tryz.prog 141 MT:=okF Tryz.func141
noncomputable def sK:FD:=cF [] Tryz.f142
theorem SO:gD Tryz.prog 142 sK:=okF Tryz.func142
noncomputable def dK:FD:=cF [] Tryz.f143
theorem FO:gD Tryz.prog 143 dK:=okF Tryz.func143
noncomputable def mR:FD:=cF [] Tryz.f144
theorem WX:gD Tryz.prog 144 mR:=okF Tryz.func144
noncomputable def QR:FD:=cF [] Tryz.f145
theorem EX:gD Tryz.prog 145 QR:=okF Tryz.func145
noncomputable def qP:FD:=cF [71] Tryz.f146
theorem EU:gD Tryz.prog 146 qP:=okF Tryz.func146
noncomputable def wV:FD:=cF [] Tryz.f149
theorem U3:gD Tryz.prog 149 wV:=okF Tryz.func149
noncomputable def SL:FD:=cF [] Tryz.f150
theorem MQ:gD Tryz.prog 150 SL:=okF Tryz.func150
noncomputable def eO:FD:=cF [] Tryz.f151
theorem AT:gD Tryz.prog 151 eO:=okF Tryz.func151
noncomputable def rO:FD:=cF [] Tryz.f152
theorem ST:gD Tryz.prog 152 rO:=okF Tryz.func152
noncomputable def bR:FD:=cF [] Tryz.f153
theorem lX:gD Tryz.prog 153 bR:=okF Tryz.func153
noncomputable def jN:FD:=cF [3000000,77,205,227,245,271,301] Tryz.f154
theorem ES:gD Tryz.prog 154 jN:=okF Tryz.func154
noncomputable def aS:FD:=cF [] Tryz.f155
theorem HY:gD Tryz.prog 155 aS:=okF Tryz.func155
noncomputable def eV:FD:=cF [] Tryz.f156
theorem I3:gD Tryz.prog 156 eV:=okF Tryz.func156
noncomputable def qV:FD:=cF [] Tryz.f157
theorem T3:gD Tryz.prog 157 qV:=okF Tryz.func157
noncomputable def RR:FD:=cF [] Tryz.f158
theorem UX:gD Tryz.prog 158 RR:=okF Tryz.func158
noncomputable def BP:FD:=cF [] Tryz.f159
theorem iW:gD Tryz.prog 159 BP:=okF Tryz.func159
noncomputable def dN:FD:=cF [3000000] Tryz.f160
theorem QS:gD Tryz.prog 160 dN:=okF Tryz.func160
noncomputable def OL:FD:=cF [] Tryz.f161
theorem CQ:gD Tryz.prog 161 OL:=okF Tryz.func161
noncomputable def PM:FD:=cF [] Tryz.f162
theorem XR:gD Tryz.prog 162 PM:=okF Tryz.func162
noncomputable def OM:FD:=cF [3000000,57] Tryz.f163
theorem ZR:gD Tryz.prog 163 OM:=okF Tryz.func163
noncomputable def MU:FD:=cF [] Tryz.f164
theorem E3:gD Tryz.prog 164 MU:=okF Tryz.func164
noncomputable def rI:FD:=cF [] Tryz.f165
theorem bL:gD Tryz.prog 165 rI:=okF Tryz.func165
noncomputable def TR:FD:=cF [] Tryz.f166
theorem IX:gD Tryz.prog 166 TR:=okF Tryz.func166
noncomputable def IM:FD:=cF [] Tryz.f167
theorem LR:gD Tryz.prog 167 IM:=okF Tryz.func167
noncomputable def UR:FD:=cF [] Tryz.f168
theorem OX:gD Tryz.prog 168 UR:=okF Tryz.func168
noncomputable def CU:FD:=cF [] Tryz.f169
theorem C2:gD Tryz.prog 169 CU:=okF Tryz.func169
noncomputable def BO:FD:=cF [] Tryz.f170
theorem mU:gD Tryz.prog 170 BO:=okF Tryz.func170
noncomputable def UM:FD:=cF [] Tryz.f171
theorem KR:gD Tryz.prog 171 UM:=okF Tryz.func171
noncomputable def oO:FD:=cF [] Tryz.f172
theorem JT:gD Tryz.prog 172 oO:=okF Tryz.func172
noncomputable def IL:FD:=cF [] Tryz.f173
theorem XQ:gD Tryz.prog 173 IL:=okF Tryz.func173
noncomputable def CP:FD:=cF [] Tryz.f174
theorem uW:gD Tryz.prog 174 CP:=okF Tryz.func174
noncomputable def fN:FD:=cF [] Tryz.f175
theorem WS:gD Tryz.prog 175 fN:=okF Tryz.func175
noncomputable def sN:FD:=cF [] Tryz.f176
theorem mS:gD Tryz.prog 176 sN:=okF Tryz.func176
noncomputable def wP:FD:=cF [] Tryz.f177
theorem RU:gD Tryz.prog 177 wP:=okF Tryz.func177
noncomputable def LI:FD:=cF [] Tryz.f178
theorem JM:gD Tryz.prog 178 LI:=okF Tryz.func178
noncomputable def qO:FD:=cF [] Tryz.f179
theorem ET:gD Tryz.prog 179 qO:=okF Tryz.func179
noncomputable def dR:FD:=cF [] Tryz.f180
theorem eX:gD Tryz.prog 180 dR:=okF Tryz.func180
noncomputable def MN:FD:=cF [] Tryz.f181
theorem WT:gD Tryz.prog 181 MN:=okF Tryz.func181
noncomputable def rS:FD:=cF [] Tryz.f182
theorem WY:gD Tryz.prog 182 rS:=okF Tryz.func182
noncomputable def tV:FD:=cF [] Tryz.f183
theorem P3:gD Tryz.prog 183 tV:=okF Tryz.func183
noncomputable def nR:FD:=cF [] Tryz.f184
theorem zX:gD Tryz.prog 184 nR:=okF Tryz.func184
noncomputable def fR:FD:=cF [49] Tryz.f185
theorem rX:gD Tryz.prog 185 fR:=okF Tryz.func185
noncomputable def uS:FD:=cF [] Tryz.f186
theorem EY:gD Tryz.prog 186 uS:=okF Tryz.func186
noncomputable def JP:FD:=cF [] Tryz.f187
theorem BV:gD Tryz.prog 187 JP:=okF Tryz.func187
noncomputable def FK:FD:=cF [3000000,20,117,131,163,209,227] Tryz.f188
theorem QP:gD Tryz.prog 188 FK:=okF Tryz.func188
noncomputable def iS:FD:=cF [] Tryz.f189
theorem RY:gD Tryz.prog 189 iS:=okF Tryz.func189
noncomputable def KP:FD:=cF [] Tryz.f190
theorem NV:gD Tryz.prog 190 KP:=okF Tryz.func190
noncomputable def NU:FD:=cF [] Tryz.f191
theorem W3:gD Tryz.prog 191 NU:=okF Tryz.func191
noncomputable def rV:FD:=cF [] Tryz.f192
theorem O3:gD Tryz.prog 192 rV:=okF Tryz.func192
noncomputable def tL:FD:=cF [3000000,28,109,147,101,1000000+196] Tryz.f193
theorem jQ:gD Tryz.prog 193 tL:=okF Tryz.func193
noncomputable def UL:FD:=cF [3000000,93] Tryz.f194
theorem ZQ:gD Tryz.prog 194 UL:=okF Tryz.func194
noncomputable def LP:FD:=cF [] Tryz.f195
theorem MV:gD Tryz.prog 195 LP:=okF Tryz.func195
noncomputable def lI:FD:=cF [1000000+198] Tryz.f196
theorem TL:gD Tryz.prog 196 lI:=okF Tryz.func196
noncomputable def MJ:FD:=cF [] Tryz.f197
theorem xO:gD Tryz.prog 197 MJ:=okF Tryz.func197
noncomputable def tH:FD:=cF [1000000+200] Tryz.f198
theorem CJ:gD Tryz.prog 198 tH:=okF Tryz.func198
noncomputable def cR:FD:=cF [] Tryz.f199
theorem kX:gD Tryz.prog 199 cR:=okF Tryz.func199
noncomputable def sG:FD:=cF [] Tryz.f200
theorem mI:gD Tryz.prog 200 sG:=okF Tryz.func200
noncomputable def NO:FD:=cF [] Tryz.f208
theorem QU:gD Tryz.prog 208 NO:=okF Tryz.func208
section
def KT {α:Type}(f:(α->LC->Option RV)->Option RV):Prop:=(∀k,f k=none)\/∃e s',∀k,f k=k e s'
def Bo (f:(LC->Option RV)->Option RV):Prop:=(∀k,f k=none)\/∃s',∀k,f k=k s'
theorem KT.bind {α β:Type}{f:(α->LC->Option RV)->Option RV}(h:KT f){g:(β->LC->Option RV)->α->LC->Option RV}(hg:∀e s,KT fun k=>g k e s):KT fun k=>f (g k):=by
 rcases h with h|⟨e,s,h⟩
 ·exact .inl fun k=>h _
 ·rcases hg e s with h2 | ⟨e',s',h2⟩
  ·exact .inl fun k=>(h _).trans (h2 k)
  ·exact .inr ⟨e',s',fun k=>(h _).trans (h2 k)⟩
theorem KT.here {α:Type}(e:α)(s:LC):KT fun(k:α->LC->Option RV)=>k e s:=.inr ⟨e,s,fun _=>rfl⟩
theorem KT.no {α:Type}:KT fun(_:α->LC->Option RV)=>none:=.inl fun _=>rfl
def C.sC:C->Bool
 |.seq a b=>a.sC&&b.sC
 |.reg ops=>ops.all fun o=>match o.op with|.XA _=>false|_=>true
 |.cond _ a b=>a.sC&&b.sC
 |.block _ b=>b.sC
 |.loop b=>b.sC
 |_=>true
section
variable {call:sE} {lh:LH}
theorem N9 (s:LC)(d:Option Nat)(g:Option (Nat×Bool)){a:(LC->Option RV)->Option RV}(ha:Bo a):Bo fun k=>eM s d g (a k) k:=by
 unfold eM;cases g with
 |none=>exact ha
 |some p =>
  obtain⟨t,want⟩:=p;simp only;split
  ·split
   ·exact ha
   ·exact .inr ⟨_,fun _=>rfl⟩
  ·exact .inr ⟨_,fun _=>rfl⟩
  ·exact .inl fun _=>rfl
theorem Cp (hh:∀f xs s,KT (lh.h f xs s))(d:Option Nat)(nt:Nat)(x:EE)(xs:List EE)(s:LC):Bo (AG lh d nt x xs s):=by
 unfold AG;split
 ·rcases hh _ (NN s xs++_) (s.enter nt) with h | ⟨y,s',h⟩
  ·exact .inl fun k=>h _
  ·exact .inr ⟨_,fun k=>h _⟩
 ·exact .inl fun _=>rfl
theorem Bp (hh:∀f xs s,KT (lh.h f xs s))(o:aD)(ho:(match o.op with|.XA _=>false|_=>true)=true)(s:LC):Bo (o.uA call lh s):=by
 have hp:∀(a:Option LC),Bo fun k=>a.bind k:=fun a=>by
  cases a with
  |none=>exact .inl fun _=>rfl
  |some s'=>exact .inr ⟨s',fun _=>rfl⟩
 unfold aD.uA;split
 ·exact N9 s _ _ (Cp hh _ _ _ _ s)
 ·rename_i h;rw[h]at ho;cases ho
 ·exact hp _
theorem Du (hh:∀f xs s,KT (lh.h f xs s)):∀(l:List aD)(hl:(l.all fun o=>match o.op with|.XA _=>false|_=>true)=true)(s:LC),Bo (eJ call lh l s)
 | [],_,s=>.inr ⟨s,fun _=>rfl⟩
 |o::r,hl,s=>by
  rw[List.all_cons,yg]at hl;rcases Bp (call:=call) hh o hl.1 s with h|⟨s',h⟩
  ·exact .inl fun k=>h _
  ·rcases Du hh r hl.2 s' with h2 | ⟨s2,h2⟩
   ·exact .inl fun k=>(h _).trans (h2 k)
   ·exact .inr ⟨s2,fun k=>(h _).trans (h2 k)⟩
theorem PQ (hl:∀b,b.sC=true->∀s,KT (lh b s))(hh:∀f xs s,KT (lh.h f xs s)):∀(c:C)(hc:c.sC=true)(s:LC),KT (c.run call lh s)
 |.skip,_,s=>.inr ⟨.nrm,s,fun _=>rfl⟩
 |.exit id,_,s=>.inr ⟨.exit id,s,fun _=>rfl⟩
 |.ret,_,s=>.inr ⟨.ret,s,fun _=>rfl⟩
 |.seq a b,hc,s=>by
  simp only[C.sC,yg]at hc;refine(PQ hl hh a hc.1 s).bind (g:=fun k e s=>match e with|.nrm=>b.run call lh s k|e=>k e s) fun e s=>?_
  cases e with
  |nrm=>exact PQ hl hh b hc.2 s
  |exit id=>exact KT.here _ _
  |ret=>exact KT.here _ _
 |.reg ops,hc,s=>by
  rcases Du (call:=call) hh ops hc s with h|⟨s',h⟩
  ·exact .inl fun k=>h _
  ·exact .inr ⟨_,_,fun k=>h _⟩
 |.cond c t e,hc,s=>by
  simp only[C.sC,yg]at hc;simp only[C.run];split
  ·split
   ·exact PQ hl hh t hc.1 s
   ·exact PQ hl hh e hc.2 s
  ·exact KT.no
 |.block id b,hc,s=>(PQ hl hh b hc s).bind (g:=fun k e s=>match e with|.exit j=>if j=id then k .nrm s else k (.exit j) s|e=>k e s) fun e s=>by
  cases e with
  |nrm=>exact KT.here _ _
  |ret=>exact KT.here _ _
  |exit j =>
   simp only;split
   ·exact KT.here _ _
   ·exact KT.here _ _
 |.loop b,hc,s=>hl b hc s
end
section
variable {T:Nat->Option FD} {ext:sE}
theorem det_N (hD:∀f c,T f=some c->c.code.sC=true):∀n,(∀b,b.sC=true->∀s,KT (RL T ext n b s))/\∀f xs s,KT (MM T ext n f xs s)
 |0=>⟨fun _ _ _=>.inl fun _=>rfl,fun _ _ _=>.inl fun _=>rfl⟩
 |n+1=>by
  obtain⟨h1,h2⟩:=det_N hD n;have hr:=PQ (call:=xG T ext n) (lh:=⟨RL T ext n,MM T ext n⟩) h1 h2;refine⟨fun b hb s=>?_,fun f xs s=>?_⟩
  ·have:RL T ext (n + 1) b s=fun k=>b.run (xG T ext n) ⟨RL T ext n,MM T ext n⟩ s (aN (RL T ext n) b k):=by funext k; rw [RL]
   rw[this];refine(hr b hb s).bind (g:=fun k=>aN (RL T ext n) b k) fun e s=>?_
   cases e with
   |nrm=>exact h1 b hb s
   |exit id=>exact KT.here _ _
   |ret=>exact KT.here _ _
  ·have:MM T ext (n + 1) f xs s=fun k=>match T f with | none=>none | some c=>if xs.length=c.np then c.code.run (xG T ext n) ⟨RL T ext n,MM T ext n⟩ (s.lB xs) (SK c k) else none:=by funext k; rw [MM]; rfl
   rw[this];cases hT:T f with
   |none=>exact KT.no
   |some c =>
    simp only;split
    ·refine (hr c.code (hD f c hT) _).bind (g:=fun k=>SK c k) fun e s=>?_
     cases e with
     |exit id=>exact KT.no
     |nrm =>
      simp only[SK];cases(NH s c.res).bind qK with
      |none=>exact KT.no
      |some x=>exact KT.here _ _
     |ret =>
      simp only[SK];cases(NH s c.res).bind qK with
      |none=>exact KT.no
      |some x=>exact KT.here _ _
    ·exact KT.no
theorem N4 (hD:∀f c,T f=some c->c.code.sC=true){c:C}(hc:c.sC=true){s:LC}{F:Ex->LC->Prop}(h:∀(k:Ex->LC->Option RV) (r:RV),(∀e s',F e s'->k e s'=some r)->c.run (sF T ext) (jH T ext) s k=some r):∃e s',F e s'/\∀(k:Ex->LC->Option RV)(r:RV),k e s'=some r->c.run (sF T ext) (jH T ext) s k=some r:=by
 classical
 obtain⟨m,hm⟩:=(sV c s (fun e s'=>if F e s' then some (default:RV)else none) default (fun _ e s'=>if F e s' then some (default:RV)else none) (fun e s' r' h'=>xE.now h') (h _ _ fun e s' hF=>if_pos hF)).some;obtain⟨d1,d2⟩:=det_N (T:=T) (ext:=ext) hD m;rcases PQ (call:=xG T ext m) (lh:=⟨RL T ext m,MM T ext m⟩) d1 d2 c hc s with hd|⟨e,s',hd⟩
 ·rw[hd]at hm;cases hm
 ·rw[hd]at hm;have hF:F e s':=by
   by_cases hF:F e s'
   ·exact hF
   ·rw[if_neg hF]at hm;cases hm
  refine⟨e,s',hF,fun k r hk=>?_⟩;have hN:c.run (xG T ext m) ⟨RL T ext m,MM T ext m⟩ s k=some r:=(hd k).trans hk;exact Exists.elim (eG (lpA:=⟨RL T ext m,MM T ext m⟩) (callB:=fun _=>sF T ext) (lpB:=fun _=>jH T ext) (fun f args S r' h'=>xE.now (zL.2 ⟨m,h'⟩)) (fun f xs s1 k1 r1 km tc h1=>((XN m).2.2 f xs s1 k1 r1 km tc h1).imp fun m' we=>WZ.2 ⟨m',we⟩) (fun b s1 k1 r1 km tc h1=>((XN m).2.1 b s1 k1 r1 km tc h1).imp fun m' we=>EZ.2 ⟨m',we⟩) c s k r (fun _=>k) (fun e s' r' h'=>xE.now h') hN).some fun _ h'=>h'
theorem Ua {f:Nat}{args:List AV}{S0:Option AV}(hD:∀f c,T f=some c->c.code.sC=true)(c:FD)(hT:T f=some c)(hl:args.length=c.np){F:Ex->LC->Prop}{P:RV->Prop}(h:∀(k:Ex->LC->Option RV) (r:RV),(∀e s',F e s'->k e s'=some r)->c.code.run (sF T ext) (jH T ext) (LC.init args S0) k=some r)(hF:∀e s',F e s'->∃r,JJ c S0 e s'=some r/\P r)(hm:zI args=false:=by rfl)(hS:Ki S0=true:=by rfl):∃r,P r/\sF T ext f args S0=some r:=by
 obtain⟨e,s',h1,h2⟩:=N4 hD (hD f c hT) h;obtain⟨r,h3,h4⟩:=hF e s' h1;exact⟨r,h4,GJ c hT hl (h2 _ _ h3) hm hS⟩
end
end
noncomputable def allL:List (Nat×FD):=[(3,gE),(5,BT),(8,iG),(10,iK),(6,uK),(7,PI),(17,BU),(15,jR),(16,uL),(18,gR),(4,TE),(9,GH),(13,xR),(14,qY),(19,xJ),(25,HH),(26,lJ),(27,RE),(23,pK),(28,JD),(20,wF),(21,PJ),(22,JH),(24,KI),(38,AI),(36,kR),(37,PL),(40,wO),(11,wI),(12,qH),(44,iD),(45,cM),(54,uE),(55,CD),(56,XD),(57,wE),(58,kE),(59,GD),(46,bK),(60,bH),(61,lH),(48,nK),(64,zH),(49,dD),(30,zM),(50,QN),(51,QK),(67,LE),(47,DG),(52,pL),(53,aL),(70,ZP),(71,NP),(29,mN),(31,tP),(32,nN),(33,eP),(34,xM),(35,rP),(78,nH),(79,FJ),(80,DJ),(81,IE),(82,TF),(83,UI),(85,UF),(86,II),(87,aK),(88,mH),(89,EK),(90,WK),(95,SE),(84,SF),(97,zR),(98,XP),(99,WR),(100,iO),(101,uP),(102,GK),(68,RH),(69,UE),(109,AJ),(110,mK),(111,WN),(112,fL),(113,QF),(114,GE),(115,qF),(116,AF),(119,iL),(120,lM),(121,UQ),(124,QH),(117,aG),(118,XE),(125,wQ),(126,lR),(127,qQ),(128,AL),(129,ER),(130,tO),(131,uO),(133,MO),(96,sL),(141,MT),(142,sK),(143,dK),(144,mR),(145,QR),(146,qP),(149,wV),(150,SL),(151,eO),(152,rO),(153,bR),(154,jN),(155,aS),(156,eV),(157,qV),(158,RR),(159,BP),(160,dN),(161,OL),(162,PM),(163,OM),(164,MU),(165,rI),(166,TR),(167,IM),(168,UR),(169,CU),(170,BO),(171,UM),(172,oO),(173,IL),(174,CP),(175,fN),(176,sN),(177,wP),(178,LI),(179,qO),(180,dR),(181,MN),(182,rS),(183,tV),(184,nR),(185,fR),(186,uS),(187,JP),(188,FK),(189,iS),(190,KP),(191,NU),(192,rV),(193,tL),(194,UL),(195,LP),(196,lI),(197,MJ),(198,tH),(199,cR),(200,sG),(208,NO)]
noncomputable def MC (f:Nat):Option FD:=allL.lookup f
def okL:List (Nat×FD)->Prop
 | []=>True
 |x::r=>gD Tryz.prog x.1 x.2/\okL r
theorem Fx:∀{l:List (Nat×FD)},okL l->∀{f:Nat}{c:FD},l.lookup f=some c->gD Tryz.prog f c
 | [],_,_,_,h=>by cases h
 |(g,d)::r,hl,f,c,h=>by
  rw[List.lookup_cons]at h;cases e:f==g with
  |true=>rw[e]at h;cases h;cases of_decide_eq_true e;exact hl.1
  |false=>rw[e]at h;exact Fx hl.2 h
theorem A5 (f:Nat)(c:FD)(h:MC f=some c):gD Tryz.prog f c:=Fx (l:=allL) ⟨BK,U0,AR,O0,nS,s3,j3,uX,cO,tX,gX,kQ,fX,W6,DY,zQ,SR,lQ,D0,aW,eN,qW,xQ,QX,PT,aX,BQ,RT,O8,xX,J0,Z0,WP,nO,bO,DO,cQ,wW,iX,DR,zN,pX,xN,U6,P0,i3,cX,OT,T0,OY,PY,eW,fW,N2,T6,B2,E6,G0,R6,TY,dW,sW,GY,aM,TT,sM,UT,H0,UY,mX,nX,TU,X0,dX,rW,RX,GT,IU,EP,SY,bX,tW,jX,Q3,FY,mO,pM,UU,K0,IY,I0,P8,IT,bQ,HM,jW,sX,gW,NQ,TX,DT,FT,WU,AY,C0,SO,FO,WX,EX,EU,U3,MQ,AT,ST,lX,ES,HY,I3,T3,UX,iW,QS,CQ,XR,ZR,E3,bL,IX,LR,OX,C2,mU,KR,JT,XQ,uW,WS,mS,RU,JM,ET,eX,WT,WY,P3,zX,rX,EY,BV,QP,RY,NV,W3,O3,jQ,ZQ,MV,TL,xO,CJ,kX,mI,QU,trivial⟩ h
theorem detL:∀{l:List (Nat×FD)},(l.all fun p=>p.2.code.sC)=true->∀{f:Nat}{c:FD},l.lookup f=some c->c.code.sC=true
 | [],_,_,_,h=>by cases h
 |(g,d)::r,hl,f,c,h=>by
  rw[List.all_cons,yg]at hl;rw[List.lookup_cons]at h;cases e:f==g with
  |true=>rw[e]at h;cases h;exact hl.1
  |false=>rw[e]at h;exact detL hl.2 h
theorem Ig (f:Nat)(c:FD)(h:MC f=some c):c.code.sC=true:=detL (l:=allL) (by kernel_rfl) h
section
mutual
def AV.beq:AV->AV->Bool
 |.int k n,.int k' n'=>decide (k=k')&&decide (n=n')
 |.bool a,.bool b=>a == b
 |.str a,.str b=>decide (a=b)
 |.EA,.EA=>true
 |.ptr t n o,.ptr t' n' o'=>Nat.beq t t'&&Nat.beq n n'&&Nat.beq o o'
 |.ip l,.ip m=>AV.JB l m
 |.bp l,.bp m=>AV.JB l m
 |.sl b l,.sl b' m=>(b == b')&&AV.MB l m
 |.bl l,.bl m=>AV.MB l m
 |.fn f l,.fn g m=>Nat.beq f g&&AV.JB l m
 |.agg l,.agg m=>AV.JB l m
 |.fA l,.fA m=>AV.JB l m
 |.undef,.undef=>true
 |_,_=>false
def AV.JB:List AV->List AV->Bool
 | [],[]=>true
 |x::l,y::m=>AV.beq x y&&AV.JB l m
 |_,_=>false
def AV.MB:List (List AV)->List (List AV)->Bool
 | [],[]=>true
 |x::l,y::m=>AV.JB x y&&AV.MB l m
 |_,_=>false
end
mutual
theorem AV.beq_eq:∀(x y:AV),AV.beq x y=true->x=y
 |.int k n,y,h=>by cases y<;>simp[AV.beq]at h<;>simp[h]
 |.bool a,y,h=>by cases y<;>simp[AV.beq]at h<;>simp[h]
 |.str a,y,h=>by cases y<;>simp[AV.beq]at h<;>simp[h]
 |.EA,y,h=>by cases y<;>simp[AV.beq]at h<;>rfl
 |.ptr t n o,y,h=>by cases y<;>simp[AV.beq]at h<;>simp[h]
 |.ip l,y,h=>by cases y<;>simp only[AV.beq]at h<;>first|cases h|rw[AV.iB l _ h]
 |.bp l,y,h=>by cases y<;>simp only[AV.beq]at h<;>first|cases h|rw[AV.iB l _ h]
 |.sl b l,y,h=>by
  cases y<;>simp only[AV.beq]at h<;>first|cases h|skip
  rw[yg]at h
  rw[AV.BB l _ h.2,show b=_ from by simpa using h.1]
 |.bl l,y,h=>by cases y<;>simp only[AV.beq]at h<;>first|cases h|rw[AV.BB l _ h]
 |.ref ..,y,h=>by cases y<;>simp[AV.beq]at h
 |.mp ..,y,h=>by cases y<;>simp[AV.beq]at h
 |.fn f l,y,h=>by
  cases y<;>simp only[AV.beq]at h<;>first|cases h|skip
  rw[yg]at h
  rw[AV.iB l _ h.2,show f=_ from by simpa using h.1]
 |.agg l,y,h=>by cases y<;>simp only[AV.beq]at h<;>first|cases h|rw[AV.iB l _ h]
 |.fA l,y,h=>by cases y<;>simp only[AV.beq]at h<;>first|cases h|rw[AV.iB l _ h]
 |.undef,y,h=>by cases y<;>simp[AV.beq]at h<;>rfl
theorem AV.iB:∀(x y:List AV),AV.JB x y=true->x=y
 | [],[],_=>rfl
 | [],_::_,h=>by simp[AV.JB]at h
 |_::_,[],h=>by simp[AV.JB]at h
 |x::l,y::m,h=>by
  simp only[AV.JB,yg]at h
  rw[AV.beq_eq x y h.1,AV.iB l m h.2]
theorem AV.BB:∀(x y:List (List AV)),AV.MB x y=true->x=y
 | [],[],_=>rfl
 | [],_::_,h=>by simp[AV.MB]at h
 |_::_,[],h=>by simp[AV.MB]at h
 |x::l,y::m,h=>by
  simp only[AV.MB,yg]at h
  rw[AV.iB x y h.1,AV.BB l m h.2]
end
def AV.beqO:Option AV->Option AV->Bool
 |none,none=>true
 |some x,some y=>AV.beq x y
 |_,_=>false
theorem AV.beqO_eq:∀(x y:Option AV),AV.beqO x y=true->x=y
 |none,none,_=>rfl
 |none,some _,h=>by cases h
 |some _,none,h=>by cases h
 |some x,some y,h=>by rw[AV.beq_eq x y h]
structure ME where
 f:Nat
 args:List AV
 S:Option AV
 r:RV
def Hz:List ME->sE
 | [],_,_,_=>none
 |e::l,f,args,S=>if Nat.beq e.f f&&(AV.JB e.args args&&AV.beqO e.S S)then some e.r else Hz l f args S
mutual
noncomputable def qU (M:List ME)(T:Nat->Option FD)(ext:sE):Nat->sE
 |0,f,args,S0=>match T f with
  |none=>ext f args S0
  |some _=>none
 |n+1,f,args,S0=>match Hz M f args S0 with
  |some r=>some r
  |none=>match T f with
   |none=>ext f args S0
   |some c=>match tU args,S0 with
    |some rest,some (.agg cs)=>if rest.length=c.np/\zI rest=false then c.code.run (qU M T ext n) ⟨Ks M T ext n,Jf M T ext n⟩ (LC.NB rest cs) (Ik c cs.length)else none
    |some _,_=>none
    |none,_=>if args.length=c.np/\zI args=false/\Ki S0=true then c.code.run (qU M T ext n) ⟨Ks M T ext n,Jf M T ext n⟩ (LC.init args S0) (JJ c S0)
     else if args.length=c.np+1/\zI args=true/\zI args.tail=false/\S0.isNone=true then c.code.run (qU M T ext n) ⟨Ks M T ext n,Jf M T ext n⟩ (LC.init args.tail none) (FM c)else none
noncomputable def Ks (M:List ME)(T:Nat->Option FD)(ext:sE):Nat->LpT
 |0,_,_,_=>none
 |n+1,b,s,k=>b.run (qU M T ext n) ⟨Ks M T ext n,Jf M T ext n⟩ s (aN (Ks M T ext n) b k)
noncomputable def Jf (M:List ME)(T:Nat->Option FD)(ext:sE):Nat->HpT
 |0,_,_,_,_=>none
 |n+1,f,args,s,k=>match T f with
  |none=>none
  |some c=>if args.length=c.np then c.code.run (qU M T ext n) ⟨Ks M T ext n,Jf M T ext n⟩ (s.lB args) (SK c k)else none
end
variable {T:Nat->Option FD} {ext:sE} {M:List ME}
def xD (T:Nat->Option FD)(ext:sE)(M:List ME):Prop:=∀f args S r,Hz M f args S=some r->sF T ext f args S=some r
theorem Wg (hM:xD T ext M):∀N,(∀f args S r,qU M T ext N f args S=some r->xE fun m=>xG T ext m f args S=some r) ∧
  (∀b s k r (km:Nat->Ex->LC->Option RV),(∀e s' r',k e s'=some r'->xE fun m=>km m e s'=some r')->Ks M T ext N b s k=some r->xE fun m=>RL T ext m b s (km m)=some r) ∧
  KX (Jf M T ext N) (MM T ext)
 |0=>by
  refine⟨fun f args S r h=>⟨0,fun m _=>?_⟩,fun b s k r km _ h=>(by cases h),fun f xs s k r km _ h=>(by cases h)⟩;unfold qU at h;cases hT:T f with
  |none=>rw[hT]at h;cases m<;>(unfold xG;rw[hT];exact h)
  |some c=>rw[hT]at h;cases h
 |N+1=>by
  obtain⟨iq,pm,jq⟩:=Wg hM N;refine⟨?_,?_,?_⟩
  ·intro f args S0 r h;unfold qU at h;cases hl:Hz M f args S0 with
   |some r' =>
    rw[hl]at h;injection h with h;subst h;exact D7 f args S0 _ (hM f args S0 _ hl)
   |none =>
   rw[hl]at h;simp only at h;cases hT:T f with
   |none=>rw[hT]at h;exact⟨0,fun m _=>by cases m<;>(unfold xG;rw[hT];exact h)⟩
   |some c =>
    rw[hT]at h;cases hm:tU args with
    |some rest =>
     cases S0 with
     |none=>rw[hm]at h;cases h
     |some S =>
      cases S with
      |agg cs =>
       rw[hm]at h;simp only at h;split at h
       ·rename_i hl;refine xE.pred ((eG (lpA:=⟨Ks M T ext N,Jf M T ext N⟩) (lpB:=fun m=>⟨RL T ext m,MM T ext m⟩) iq jq pm c.code _ _ r (fun _=>Ik c cs.length) (fun e s' r' h'=>xE.now h') h).imp fun m we=>?_);unfold xG;rw[hT];simp only[hm];rw[if_pos hl];exact we
       ·cases h
      |_=>rw[hm]at h;cases h
    |none =>
     rw[hm]at h;simp only at h;split at h
     ·rename_i hl;refine xE.pred ((eG (lpA:=⟨Ks M T ext N,Jf M T ext N⟩) (lpB:=fun m=>⟨RL T ext m,MM T ext m⟩) iq jq pm c.code _ _ r (fun _=>JJ c S0) (fun e s' r' h'=>xE.now h') h).imp fun m we=>?_);unfold xG;rw[hT];simp only[hm];rw[if_pos hl];exact we
     ·rename_i hl;split at h
      ·rename_i ik;refine xE.pred ((eG (lpA:=⟨Ks M T ext N,Jf M T ext N⟩) (lpB:=fun m=>⟨RL T ext m,MM T ext m⟩) iq jq pm c.code _ _ r (fun _=>FM c) (fun e s' r' h'=>xE.now h') h).imp fun m we=>?_);unfold xG;rw[hT];simp only[hm];rw[if_neg hl,if_pos ik];exact we
      ·cases h
  ·intro b s k r km hk h;unfold Ks at h;refine xE.pred ((eG (lpA:=⟨Ks M T ext N,Jf M T ext N⟩) (lpB:=fun m=>⟨RL T ext m,MM T ext m⟩) iq jq pm b s _ r (fun m=>aN (RL T ext m) b (km (m + 1))) (fun e s' r' h'=>?_) h).imp fun m hm=>?_)
   ·cases e with
    |nrm=>exact pm b s' k r' (fun m=>km (m+1)) (fun e s'' r'' h''=>(hk e s'' r'' h'').succ) h'
    |exit id=>exact(hk _ _ _ h').succ
    |ret=>exact(hk _ _ _ h').succ
   ·unfold RL;exact hm
  ·intro f xs s k r km hk h;unfold Jf at h;cases hT:T f with
   |none=>rw[hT]at h;cases h
   |some c =>
    rw[hT]at h;simp only at h;split at h
    ·rename_i hl;refine xE.pred ((eG (lpA:=⟨Ks M T ext N,Jf M T ext N⟩) (lpB:=fun m=>⟨RL T ext m,MM T ext m⟩) iq jq pm c.code _ _ r (fun m=>SK c (km (m + 1))) (fun e s' r' h'=>?_) h).imp fun m hm=>?_)
     ·cases e with
      |exit id=>cases h'
      |nrm =>
       simp only[SK]at h' ⊢;obtain⟨y,hy,h'⟩:=yh.1 h';simp only[hy,J];exact(hk _ _ _ h').succ
      |ret =>
       simp only[SK]at h' ⊢;obtain⟨y,hy,h'⟩:=yh.1 h';simp only[hy,J];exact(hk _ _ _ h').succ
     ·unfold MM;rw[hT];simp only;rw[if_pos hl];exact hm
    ·cases h
theorem xD.nil:xD T ext []:=fun f args S r h=>by cases h
theorem xD.run (hM:xD T ext M){f:Nat}{args:List AV}{S:Option AV}{r:RV}(N:Nat)(h:qU M T ext N f args S=some r):sF T ext f args S=some r:=by
 obtain⟨m,hm⟩:=((Wg hM N).1 f args S r h).some;exact zL.2 ⟨m,hm⟩
theorem xD.cons (hM:xD T ext M){e:ME}(h:sF T ext e.f e.args e.S=some e.r):xD T ext (e::M):=fun f args S r hl=>by
 unfold Hz at hl;split at hl
 ·rename_i hc;simp only [yg] at hc;obtain ⟨h1,h2,h3⟩:=hc;injection hl with hl;have h1:e.f=f:=by simpa using h1
  rw[<- h1,<- AV.iB _ _ h2,<- AV.beqO_eq _ _ h3,<- hl];exact h
 ·exact hM f args S r hl
theorem xD.more (hM:xD T ext M)(N:Nat)(e:ME)(h:qU M T ext N e.f e.args e.S=some e.r):xD T ext (e::M):=hM.cons (hM.run N h)
end
section
def Od (e:Nat->SC)(d:Nat)(x:SC):Nat->SC:=fun t=>if t=d then x else e t
theorem ON (e:Nat->SC)(d:Nat)(x:SC)(t:Nat):Od e d x t=if t=d then x else e t:=(rfl)
def DN (m:Nat->Nat->Option (List SC))(t n:Nat)(r:List SC):Nat->Nat->Option (List SC):=fun t' n'=>if t'=t/\n'=n then some r else m t' n'
theorem CC (m:Nat->Nat->Option (List SC))(t n:Nat)(r:List SC)(t' n':Nat):DN m t n r t' n'=if t'=t/\n'=n then some r else m t' n':=(rfl)
def setO (m:Nat->Nat->Option AV)(t n:Nat)(r:AV):Nat->Nat->Option AV:=fun t' n'=>if t'=t/\n'=n then some r else m t' n'
theorem setO_at (m:Nat->Nat->Option AV)(t n:Nat)(r:AV)(t' n':Nat):setO m t n r t' n'=if t'=t/\n'=n then some r else m t' n':=(rfl)
def Q2 (k:Nat)(e:Nat->SC):Nat->SC:=fun t=>(e t).strip k
theorem p5 (k:Nat)(e:Nat->SC)(t:Nat):Q2 k e t=(e t).strip k:=(rfl)
def ID (k:Nat)(m:Nat->Nat->Option (List SC)):Nat->Nat->Option (List SC):=fun t n=>(m t n).map (·.map (SC.strip k))
theorem s5 (k:Nat)(m:Nat->Nat->Option (List SC))(t n:Nat):ID k m t n=(m t n).map (·.map (SC.strip k)):=(rfl)
theorem SC.strip_v (k:Nat)(x:SC):(x.strip k).v=x.v:=(rfl)
theorem SC.strip_a (k:Nat)(x:SC):(x.strip k).a=x.a.strip k:=(rfl)
theorem SC.IC (k:Nat)(v:AV)(a:An):SC.strip k ⟨v,a⟩=⟨v,a.strip k⟩:=(rfl)
def argE (args:List AV):Nat->SC:=fun t=>⟨args.getD t .undef,.no⟩
theorem Ib (args:List AV)(t:Nat):argE args t=⟨args.getD t .undef,.no⟩:=(rfl)
def noM:Nat->Nat->Option (List SC):=fun _ _=>none
theorem noM_at (t n:Nat):noM t n=none:=(rfl)
def Sx (S0:Option AV):Nat->Nat->Option AV:=fun t n=>if t=0/\n=0 then S0 else none
theorem objE_at (S0:Option AV)(t n:Nat):Sx S0 t n=if t=0/\n=0 then S0 else none:=(rfl)
def undE:Nat->SC:=fun _=>⟨.undef,.no⟩
theorem undE_at (t:Nat):undE t=⟨.undef,.no⟩:=(rfl)
theorem J9 {α β:Type}(a:α)(f:α->Option β):(some a).bind f=f a:=(rfl)
theorem K6 {α β:Type}(f:α->β)(l:List α):(l.map f).take l.length=l.map f:=Y0b (by simp)
theorem m_init (args:List AV)(S0:Option AV):LC.init args S0=⟨argE args,noM,1,Sx S0,undE⟩:=(rfl)
theorem m_put (s:LC)(d:Nat)(x:SC):s.put (some d) x=⟨Od s.env d x,s.mem,s.next,s.obj,s.gh⟩:=(rfl)
theorem m_put0 (s:LC)(x:SC):s.put none x=s:=(rfl)
theorem m_row (s:LC)(t n:Nat)(r:List SC):s.setRow t n r=⟨s.env,DN s.mem t n r,s.next,s.obj,s.gh⟩:=(rfl)
theorem m_obj (s:LC)(t n:Nat)(r:AV):s.setObj t n r=⟨s.env,s.mem,s.next,setO s.obj t n r,s.gh⟩:=(rfl)
theorem m_strip (s:LC)(k:Nat):s.strip k=⟨Q2 k s.env,ID k s.mem,s.next,s.obj,Q2 k s.gh⟩:=(rfl)
theorem Lz (s:LC)(k:Nat)(e:TypeId):s.zB (.own k e)=s.strip k:=(rfl)
theorem Zz (s:LC):s.zB .ex=s:=(rfl)
def DV (t n:Nat)(e:Nat->SC):Nat->SC:=fun j=>(e j).kill t n
theorem PD (t n:Nat)(e:Nat->SC)(j:Nat):DV t n e j=(e j).kill t n:=(rfl)
def FV (t n:Nat)(m:Nat->Nat->Option (List SC)):Nat->Nat->Option (List SC):=fun t' n'=>if t'=t/\n'=n then none else(m t' n').map (·.map (SC.kill t n))
theorem UD (t n:Nat)(m:Nat->Nat->Option (List SC))(t' n':Nat):FV t n m t' n'=if t'=t/\n'=n then none else(m t' n').map (·.map (SC.kill t n)):=(rfl)
theorem SC.sA (t n:Nat)(x:SC):(x.kill t n).v=x.v.kill t n:=(rfl)
theorem SC.kill_a (t n:Nat)(x:SC):(x.kill t n).a=x.a:=(rfl)
theorem SC.iA (t n:Nat)(v:AV)(a:An):SC.kill t n ⟨v,a⟩=⟨v.kill t n,a⟩:=(rfl)
theorem m_kill (s:LC)(t n:Nat):s.zA (some (t,n))=⟨DV t n s.env,FV t n s.mem,s.next,s.obj,DV t n s.gh⟩:=(rfl)
def rowE (cs:List AV):Nat->Nat->Option (List SC):=fun t n=>if t=0/\n=0 then some (cs.map fun v=>⟨v,EJ v⟩)else none
theorem rowE_at (cs:List AV)(t n:Nat):rowE cs t n=if t=0/\n=0 then some (cs.map fun v=>⟨v,EJ v⟩)else none:=(rfl)
theorem m_initR (args cs:List AV):LC.NB args cs=⟨argE args,rowE cs,1,Sx none,undE⟩:=by
 have:Sx none=fun _ _=>none:=by funext t n;simp[Sx]
 rw[this];rfl
def Zj (m:Nat->Nat->Option (List SC)):Nat->Nat->Option (List SC):=fun t n=>if t=0/\n=0 then none else m t n
theorem Ea (m:Nat->Nat->Option (List SC))(t n:Nat):Zj m t n=if t=0/\n=0 then none else m t n:=(rfl)
theorem m_drop0 (s:LC):s.tB=⟨s.env,Zj s.mem,s.next,s.obj,s.gh⟩:=(rfl)
def slotE (xs:List SC):Nat->SC:=fun t=>xs.getD t ⟨.undef,.no⟩
theorem Nc (xs:List SC)(t:Nat):slotE xs t=xs.getD t ⟨.undef,.no⟩:=(rfl)
def R9 (nt:Nat)(e g:Nat->SC):Nat->SC:=fun t=>if t<nt then e t else g (t-nt)
theorem uH (nt:Nat)(e g:Nat->SC)(t:Nat):R9 nt e g t=if t<nt then e t else g (t-nt):=(rfl)
def Eh (nt:Nat)(g:Nat->SC):Nat->SC:=fun t=>if t<nt then g t else⟨.undef,.no⟩
theorem GP (nt:Nat)(g:Nat->SC)(t:Nat):Eh nt g t=if t<nt then g t else⟨.undef,.no⟩:=(rfl)
def zY (nt:Nat)(g:Nat->SC):Nat->SC:=fun t=>g (t+nt)
theorem T1 (nt:Nat)(g:Nat->SC)(t:Nat):zY nt g t=g (t+nt):=(rfl)
theorem m_initH (s:LC)(xs:List SC):s.lB xs=⟨slotE xs,s.mem,s.next,s.obj,s.gh⟩:=(rfl)
theorem m_enter (s:LC)(nt:Nat):s.enter nt=⟨s.env,s.mem,s.next+1,s.obj,R9 nt s.env s.gh⟩:=(rfl)
theorem m_leave (s:LC)(nt:Nat):s.leave nt=⟨Eh nt s.gh,s.mem,s.next,s.obj,zY nt s.gh⟩:=(rfl)
theorem m_kill0 (s:LC):s.zA none=s:=(rfl)
theorem XZ {v:AV}(h:v.tA=true)(t n:Nat):v.rA t n=v:=by
 cases v<;>first|rfl|(simp[AV.tA]at h;done)
theorem N7 {cs:List AV}(h:cs.all AV.tA=true)(t n:Nat):cs.map (AV.rA t n)=cs:=by
 have h1:cs.map (AV.rA t n)=cs.map id:=yE fun x hx=>XZ (ye.1 h x hx) t n
 rwa [List.map_id]at h1
theorem I4 {v:AV}(h:v.free=true)(t n:Nat):v.kill t n=v:=by
 cases v with
 |agg cs=>exact congrArg AV.agg (N7 h t n)
 |_=>first|rfl|(simp[AV.free,AV.tA]at h;done)
theorem Pa {s:LC}{v:AV}(h:v.tA=true):v.lA s=v:=by
 cases v<;>first|rfl|(simp[AV.tA]at h;done)
theorem Xu {s:LC}{cs:List AV}(h:cs.all AV.tA=true):cs.map (AV.lA s)=cs:=by
 have h1:cs.map (AV.lA s)=cs.map id:=yE fun x hx=>Pa (ye.1 h x hx)
 rwa [List.map_id]at h1
theorem Nk {s:LC}{v:AV}(h:v.free=true):v.FA s=v:=by
 cases v with
 |agg cs=>exact congrArg AV.agg (Xu h)
 |_=>first|rfl|(simp[AV.free,AV.tA]at h;done)
section
variable {sz:Nat} {l:List (List AV)}
theorem AN (l m:List (List AV)):qD (l++m)=qD l++qD m:=by simp[qD]
theorem BJ (h:kD sz l=true):(qD l).length=l.length*sz:=by
 induction l with
 |nil=>simp[qD]
 |cons c r ih =>
  rw[wH]at h;simp only[yg,decide_eq_true_eq]at h;have:=ih h.2;simp only[qD,yA,Y03,yj,yc,yG]at this ⊢;rw[this,h.1,yN];omega
theorem xY (h:kD sz l=true){k:Nat}(hk:k<=l.length):qD l=qD (l.take k)++qD (l.drop k)/\(qD (l.take k)).length=k*sz:=by
 refine⟨by rw[<- AN,Y0c],?_⟩;rw[BJ (qM h k),yz,Nat.min_eq_left hk]
theorem Pw (h:kD sz l=true){k:Nat}(hk:k<=l.length):(qD l).take (k*sz)=qD (l.take k):=by
 obtain⟨h1,h2⟩:=xY h hk;rw[h1,<- h2,List.take_left]
theorem wR (h:kD sz l=true){k:Nat}(hk:k<=l.length):(qD l).drop (k*sz)=qD (l.drop k):=by
 obtain⟨h1,h2⟩:=xY h hk;rw[h1,<- h2,List.drop_left]
theorem QO (c:List AV)(r:List (List AV)):qD (c::r)=c.map (⟨·,.no⟩)++qD r:=by simp[qD]
theorem rQ (h:kD sz l=true){k:Nat}{c:List AV}(hk:l[k]?=some c):c.length=sz:=by
 simp only[kD,ye]at h;simpa using h c (yr hk)
theorem F1 (h:kD sz l=true){k:Nat}{c:List AV}(hk:l[k]?=some c):eD true sz (k*sz) (qD l)=some ⟨.agg c,.no⟩:=by
 have ba:=(yn.1 hk).1;have hc:=rQ h hk;have hd:l.drop k=c::l.drop (k+1):=by rw[yv ba,(yn.1 hk).2]
 simp only[eD,if_true,BJ h];rw[if_pos (by rw[<- yN];exact Y0e _ ba),wR h (by omega),hd,QO,<- hc,List.take_left' (by simp)];simp[Function.comp_def]
theorem OS (h:kD sz l=true){k:Nat}(hk:k<l.length){c:List AV}(hc:c.length=sz)(a:An):KC true sz (k*sz) (qD l) (.agg c) a=some (qD (l.set k c)):=by
 simp only[KC,if_true,BJ h];rw[if_pos ⟨hc,by rw[<- yN];exact Y0e _ hk⟩,Pw h (by omega),<- yN,wR h hk,List.set_eq_take_append_cons_drop,if_pos hk,AN,QO,yx]
theorem FC (z off:Nat)(r:List SC):eD false z off r=r[off]?:=by simp[eD]
theorem HC (z off:Nat)(x:SC)(r:List SC):eD true z off (x::r)=if off+z<=(x::r).length then some ⟨.agg ((((x::r).drop off).take z).map (·.v)),.no⟩else none:=by simp[eD]
theorem JC (z off:Nat)(y:SC)(r:List SC)(x:AV)(a:An):KC false z off (y::r) x a=if x.leaf/\off<(y::r).length then some ((y::r).set off ⟨x,a⟩)else none:=by simp[KC]
theorem DC (z off:Nat)(y:SC)(r:List SC)(cs:List AV)(a:An):KC true z off (y::r) (.agg cs) a=if cs.length=z/\off+z<=(y::r).length then some ((y::r).take off++cs.map (⟨·,.no⟩)++(y::r).drop (off+z))else none:=by simp[KC]
def ND (l:List (List AV)):Bool:=l.all fun c=>c.all AV.tA
theorem BH {α:Type}(f:α->List AV)(l:List α)(h:∀x,(f x).all AV.tA=true):ND (l.map f)=true:=by
 simp only[ND,List.all_map,ye];exact fun x _=>h x
theorem AE (h:kD sz l=true)(hf:ND l=true):KG (qD l) sz 0 l.length=some l:=by
 unfold KG;rw[if_pos]
 ·congr 1;refine List.ext_getElem (by simp) fun i h1 h2=>?_
  simp only[List.getElem_map,List.getElem_range,yy];rw[wR h (by omega),yv h2,QO];have hc:=rQ h (yf h2);rw[<- hc,List.take_left' (by simp)];simp[Function.comp_def]
 ·refine⟨by rw[BJ h];omega,?_⟩;simp only[qD,List.all_map,List.all_flatten,Function.comp_def];exact hf
end
section
variable {call:sE} {lp:LH} {T:Nat->Option FD} {ext:sE}
noncomputable def Xc (call:sE)(lp:LH)(b:C)(k:Ex->LC->Option RV):Ex->LC->Option RV:=fun e s=>match e with
 |.nrm=>b.run call lp s k
 |e=>k e s
def regK (k:Ex->LC->Option RV):LC->Option RV:=fun s=>k .nrm { s with next:=s.next+1 }
noncomputable def opK (call:sE)(lp:LH)(r:List aD)(k:LC->Option RV):LC->Option RV:=fun s=>eJ call lp r s k
def callK (d:Option Nat)(nt:Nat)(k:LC->Option RV):SC->LC->Option RV:=fun y s'=>k ((s'.leave nt).put d y)
def Ih (id:Nat)(k:Ex->LC->Option RV):Ex->LC->Option RV:=fun e s=>match e with
 |.exit j=>if j=id then k .nrm s else k (.exit j) s
 |e=>k e s
def U7 (v:AV)(a b:Option RV):Option RV:=match v with
 |.bool t=>if t then a else b
 |_=>none
def FW (v:AV)(w:Bool)(a b:Option LC):Option LC:=match v with
 |.bool t=>if t=w then a else b
 |.fA []=>b
 |_=>none
def GW (v:AV)(w:Bool)(a b:Option RV):Option RV:=match v with
 |.bool t=>if t=w then a else b
 |.fA []=>b
 |_=>none
def fnC (v:AV)(h:Nat->List AV->Option RV):Option RV:=match v with
 |.fn f cs=>h f cs
 |_=>none
variable (b c:C) (s:LC) (k:Ex->LC->Option RV) (j id:Nat)
theorem HF:Xc call lp b k .nrm s=b.run call lp s k:=(rfl)
theorem Zd:Xc call lp b k (.exit j) s=k (.exit j) s:=(rfl)
theorem Cc:Xc call lp b k .ret s=k .ret s:=(rfl)
theorem regK_at:regK k s=k .nrm ⟨s.env,s.mem,s.next+1,s.obj,s.gh⟩:=(rfl)
theorem opK_at (r:List aD)(k:LC->Option RV):opK call lp r k s=eJ call lp r s k:=(rfl)
theorem Hh (d:Option Nat)(nt:Nat)(k:LC->Option RV)(y:SC):callK d nt k y s=k ((s.leave nt).put d y):=(rfl)
theorem Oh:Ih id k .nrm s=k .nrm s:=(rfl)
theorem Dp:Ih id k (.exit j) s=if j=id then k .nrm s else k (.exit j) s:=(rfl)
theorem Ph:Ih id k .ret s=k .ret s:=(rfl)
theorem B9 (x y:Option RV):U7 (.bool true) x y=x:=(rfl)
theorem I7 (x y:Option RV):U7 (.bool false) x y=y:=(rfl)
theorem X7 (t w:Bool)(x y:Option LC):FW (.bool t) w x y=if t=w then x else y:=(rfl)
theorem Iq (w:Bool)(x y:Option LC):FW (.fA []) w x y=y:=(rfl)
theorem C7 (t w:Bool)(x y:Option RV):GW (.bool t) w x y=if t=w then x else y:=(rfl)
theorem Oq (w:Bool)(x y:Option RV):GW (.fA []) w x y=y:=(rfl)
theorem fnC_fn (f:Nat)(cs:List AV)(h:Nat->List AV->Option RV):fnC (.fn f cs) h=h f cs:=(rfl)
theorem r_skip:C.run call lp .skip s k=k .nrm s:=(rfl)
theorem wK:C.run call lp (.seq b c) s k=b.run call lp s (Xc call lp c k):=(rfl)
theorem r_reg (ops:List aD):C.run call lp (.reg ops) s k=eJ call lp ops s (regK k):=(rfl)
theorem r_cond (x:EE):C.run call lp (.cond x b c) s k=U7 (x.get s) (b.run call lp s k) (c.run call lp s k):=(rfl)
theorem r_block:C.run call lp (.block id b) s k=b.run call lp s (Ih id k):=(rfl)
theorem r_loop:C.run call (jH T ext) (.loop b) s k=HJ T ext b s k:=(rfl)
theorem r_exit:C.run call lp (.exit id) s k=k (.exit id) s:=(rfl)
theorem r_ret:C.run call lp .ret s k=k .ret s:=(rfl)
theorem a_nrm:aN lp b k .nrm s=lp b s k:=(rfl)
theorem a_exit:aN lp b k (.exit j) s=k (.exit j) s:=(rfl)
theorem a_ret:aN lp b k .ret s=k .ret s:=(rfl)
theorem o_nil (k:LC->Option RV):eJ call lp [] s k=k s:=(rfl)
theorem o_cons (o:aD)(r:List aD)(k:LC->Option RV):eJ call lp (o::r) s k=o.uA call lp s (opK call lp r k):=(rfl)
theorem s_plain (d:Option Nat)(op:K):aD.step call ⟨d,op,none⟩ s=(op.run call s).bind (aD.eff ⟨d,op,none⟩ s):=(rfl)
theorem s_guard (d:Option Nat)(op:K)(t:Nat)(w:Bool):aD.step call ⟨d,op,some (t,w)⟩ s=FW (s.env t).v w ((op.run call s).bind (aD.eff ⟨d,op,none⟩ s)) (some (s.put d ⟨.fA [],.no⟩)):=by
 simp only[aD.step,FW];generalize(s.env t).v=v;cases v with
 |fA l=>cases l<;>rfl
 |_=>rfl
theorem k_callh (d:Option Nat)(nt:Nat)(x:EE)(xs:List EE)(g:Option (Nat×Bool))(k:LC->Option RV):aD.uA call lp ⟨d,.mA nt x xs,g⟩ s k=eM s d g (AG lp d nt x xs s k) k:=(rfl)
theorem hg_none (d:Option Nat)(a:Option RV)(k:LC->Option RV):eM s d none a k=a:=(rfl)
theorem hg_some (d:Option Nat)(t:Nat)(w:Bool)(a:Option RV)(k:LC->Option RV):eM s d (some (t,w)) a k=GW (s.env t).v w a (k (s.put d ⟨.fA [],.no⟩)):=by
 simp only[eM,GW];generalize(s.env t).v=v;cases v with
 |fA l=>cases l<;>rfl
 |_=>rfl
theorem h_step (d:Option Nat)(nt:Nat)(x:EE)(xs:List EE)(k:LC->Option RV):AG (jH T ext) d nt x xs s k=fnC (x.get s) fun f cs=>Rq T ext f (NN s xs++cs.map (⟨·,.no⟩)) (s.enter nt) (callK d nt k):=by
 simp only[AG,fnC];generalize x.get s=v;cases v<;>rfl
section
variable (d:Option Nat) (g:Option (Nat × Bool)) (k:LC->Option RV)
section
variable {x0}
include x0
theorem k_mv:aD.uA call lp ⟨d,.mv x0,g⟩ s k=(aD.step call ⟨d,.mv x0,g⟩ s).bind k:=(rfl)
theorem k_pick {x1} {x2}:aD.uA call lp ⟨d,.pick x0 x1 x2,g⟩ s k=(aD.step call ⟨d,.pick x0 x1 x2,g⟩ s).bind k:=(rfl)
theorem k_alloc:aD.uA call lp ⟨d,.alloc x0,g⟩ s k=(aD.step call ⟨d,.alloc x0,g⟩ s).bind k:=(rfl)
theorem k_box {x1}:aD.uA call lp ⟨d,.box x0 x1,g⟩ s k=(aD.step call ⟨d,.box x0 x1,g⟩ s).bind k:=(rfl)
theorem k_build {x1}:aD.uA call lp ⟨d,.build x0 x1,g⟩ s k=(aD.step call ⟨d,.build x0 x1,g⟩ s).bind k:=(rfl)
theorem k_bsl {x1} {x2}:aD.uA call lp ⟨d,.IA x0 x1 x2,g⟩ s k=(aD.step call ⟨d,.IA x0 x1 x2,g⟩ s).bind k:=(rfl)
theorem k_bslr {x1} {x2} {x3}:aD.uA call lp ⟨d,.SB x0 x1 x2 x3,g⟩ s k=(aD.step call ⟨d,.SB x0 x1 x2 x3,g⟩ s).bind k:=(rfl)
theorem k_load {x1} {x2} {x3}:aD.uA call lp ⟨d,.load x0 x1 x2 x3,g⟩ s k=(aD.step call ⟨d,.load x0 x1 x2 x3,g⟩ s).bind k:=(rfl)
theorem k_store {x1} {x2} {x3} {x4}:aD.uA call lp ⟨d,.store x0 x1 x2 x3 x4,g⟩ s k=(aD.step call ⟨d,.store x0 x1 x2 x3 x4,g⟩ s).bind k:=(rfl)
theorem k_bin {x1} {x2} {x3}:aD.uA call lp ⟨d,.bin x0 x1 x2 x3,g⟩ s k=(aD.step call ⟨d,.bin x0 x1 x2 x3,g⟩ s).bind k:=(rfl)
theorem k_mm {x1} {x2}:aD.uA call lp ⟨d,.mm x0 x1 x2,g⟩ s k=(aD.step call ⟨d,.mm x0 x1 x2,g⟩ s).bind k:=(rfl)
theorem k_eqa {x1} {x2} {x3}:aD.uA call lp ⟨d,.QC x0 x1 x2 x3,g⟩ s k=(aD.step call ⟨d,.QC x0 x1 x2 x3,g⟩ s).bind k:=(rfl)
theorem k_eqn {x1} {x2} {x3}:aD.uA call lp ⟨d,.jC x0 x1 x2 x3,g⟩ s k=(aD.step call ⟨d,.jC x0 x1 x2 x3,g⟩ s).bind k:=(rfl)
theorem k_un {x1}:aD.uA call lp ⟨d,.un x0 x1,g⟩ s k=(aD.step call ⟨d,.un x0 x1,g⟩ s).bind k:=(rfl)
theorem k_conv {x1}:aD.uA call lp ⟨d,.conv x0 x1,g⟩ s k=(aD.step call ⟨d,.conv x0 x1,g⟩ s).bind k:=(rfl)
theorem k_rstr:aD.uA call lp ⟨d,.GB x0,g⟩ s k=(aD.step call ⟨d,.GB x0,g⟩ s).bind k:=(rfl)
theorem k_bstr {x1}:aD.uA call lp ⟨d,.eC x0 x1,g⟩ s k=(aD.step call ⟨d,.eC x0 x1,g⟩ s).bind k:=(rfl)
theorem k_clr {x1} {x2}:aD.uA call lp ⟨d,.clr x0 x1 x2,g⟩ s k=(aD.step call ⟨d,.clr x0 x1 x2,g⟩ s).bind k:=(rfl)
theorem k_mks {x1} {x2} {x3} {x4}:aD.uA call lp ⟨d,.PC x0 x1 x2 x3 x4,g⟩ s k=(aD.step call ⟨d,.PC x0 x1 x2 x3 x4,g⟩ s).bind k:=(rfl)
theorem k_slc {x1} {x2} {x3} {x4} {x5}:aD.uA call lp ⟨d,.nC x0 x1 x2 x3 x4 x5,g⟩ s k=(aD.step call ⟨d,.nC x0 x1 x2 x3 x4 x5,g⟩ s).bind k:=(rfl)
theorem k_aslc {x1} {x2} {x3} {x4} {x5}:aD.uA call lp ⟨d,.tC x0 x1 x2 x3 x4 x5,g⟩ s k=(aD.step call ⟨d,.tC x0 x1 x2 x3 x4 x5,g⟩ s).bind k:=(rfl)
theorem k_faddr {x1}:aD.uA call lp ⟨d,.PA x0 x1,g⟩ s k=(aD.step call ⟨d,.PA x0 x1,g⟩ s).bind k:=(rfl)
theorem k_field {x1} {x2} {x3}:aD.uA call lp ⟨d,.field x0 x1 x2 x3,g⟩ s k=(aD.step call ⟨d,.field x0 x1 x2 x3,g⟩ s).bind k:=(rfl)
theorem k_iaddr {x1} {x2}:aD.uA call lp ⟨d,.aB x0 x1 x2,g⟩ s k=(aD.step call ⟨d,.aB x0 x1 x2,g⟩ s).bind k:=(rfl)
theorem k_aaddr {x1} {x2} {x3}:aD.uA call lp ⟨d,.PB x0 x1 x2 x3,g⟩ s k=(aD.step call ⟨d,.PB x0 x1 x2 x3,g⟩ s).bind k:=(rfl)
theorem k_index {x1}:aD.uA call lp ⟨d,.index x0 x1,g⟩ s k=(aD.step call ⟨d,.index x0 x1,g⟩ s).bind k:=(rfl)
theorem k_ext {x1}:aD.uA call lp ⟨d,.ext x0 x1,g⟩ s k=(aD.step call ⟨d,.ext x0 x1,g⟩ s).bind k:=(rfl)
theorem k_call {x1} {x2}:aD.uA call lp ⟨d,.call x0 x1 x2,g⟩ s k=(aD.step call ⟨d,.call x0 x1 x2,g⟩ s).bind k:=(rfl)
theorem k_callo {x1} {x2} {x3}:aD.uA call lp ⟨d,.LA x0 x1 x2 x3,g⟩ s k=(aD.step call ⟨d,.LA x0 x1 x2 x3,g⟩ s).bind k:=(rfl)
theorem k_calln {x1} {x2} {x3} {x4} {x5}:aD.uA call lp ⟨d,.nA x0 x1 x2 x3 x4 x5,g⟩ s k=(aD.step call ⟨d,.nA x0 x1 x2 x3 x4 x5,g⟩ s).bind k:=(rfl)
theorem k_callq {x1} {x2}:aD.uA call lp ⟨d,.bA x0 x1 x2,g⟩ s k=(aD.step call ⟨d,.bA x0 x1 x2,g⟩ s).bind k:=(rfl)
theorem k_callf {x1} {x2} {x3}:aD.uA call lp ⟨d,.sB x0 x1 x2 x3,g⟩ s k=(aD.step call ⟨d,.sB x0 x1 x2 x3,g⟩ s).bind k:=(rfl)
theorem k_mkf {x1}:aD.uA call lp ⟨d,.zC x0 x1,g⟩ s k=(aD.step call ⟨d,.zC x0 x1,g⟩ s).bind k:=(rfl)
theorem k_callv {x1} {x2}:aD.uA call lp ⟨d,.JA x0 x1 x2,g⟩ s k=(aD.step call ⟨d,.JA x0 x1 x2,g⟩ s).bind k:=(rfl)
theorem k_callr {x1} {x2}:aD.uA call lp ⟨d,.uB x0 x1 x2,g⟩ s k=(aD.step call ⟨d,.uB x0 x1 x2,g⟩ s).bind k:=(rfl)
theorem k_len {x1}:aD.uA call lp ⟨d,.len x0 x1,g⟩ s k=(aD.step call ⟨d,.len x0 x1,g⟩ s).bind k:=(rfl)
theorem k_app {x1} {x2} {x3} {x4} {x5}:aD.uA call lp ⟨d,.app x0 x1 x2 x3 x4 x5,g⟩ s k=(aD.step call ⟨d,.app x0 x1 x2 x3 x4 x5,g⟩ s).bind k:=(rfl)
theorem k_appf {x1} {x2} {x3} {x4} {x5}:aD.uA call lp ⟨d,.dB x0 x1 x2 x3 x4 x5,g⟩ s k=(aD.step call ⟨d,.dB x0 x1 x2 x3 x4 x5,g⟩ s).bind k:=(rfl)
theorem k_appm {x1} {x2} {x3} {x4} {x5}:aD.uA call lp ⟨d,.RA x0 x1 x2 x3 x4 x5,g⟩ s k=(aD.step call ⟨d,.RA x0 x1 x2 x3 x4 x5,g⟩ s).bind k:=(rfl)
theorem k_appn {x1} {x2} {x3} {x4} {x5}:aD.uA call lp ⟨d,.jB x0 x1 x2 x3 x4 x5,g⟩ s k=(aD.step call ⟨d,.jB x0 x1 x2 x3 x4 x5,g⟩ s).bind k:=(rfl)
end
theorem k_mkm:aD.uA call lp ⟨d,.OC,g⟩ s k=(aD.step call ⟨d,.OC,g⟩ s).bind k:=(rfl)
theorem k_bad:aD.uA call lp ⟨d,.bad,g⟩ s k=(aD.step call ⟨d,.bad,g⟩ s).bind k:=(rfl)
theorem k_mkb {T e:TypeId}:aD.uA call lp ⟨d,.mkb T e,g⟩ s k=(aD.step call ⟨d,.mkb T e,g⟩ s).bind k:=(rfl)
theorem k_mget {x0} {x1} {x2} {x3} {x4}:aD.uA call lp ⟨d,.LB x0 x1 x2 x3 x4,g⟩ s k=(aD.step call ⟨d,.LB x0 x1 x2 x3 x4,g⟩ s).bind k:=(rfl)
theorem k_mset {x0} {x1} {x2} {x3}:aD.uA call lp ⟨d,.HB x0 x1 x2 x3,g⟩ s k=(aD.step call ⟨d,.HB x0 x1 x2 x3,g⟩ s).bind k:=(rfl)
theorem k_mlen {x0}:aD.uA call lp ⟨d,.rC x0,g⟩ s k=(aD.step call ⟨d,.rC x0,g⟩ s).bind k:=(rfl)
theorem k_rng {x0}:aD.uA call lp ⟨d,.fC x0,g⟩ s k=(aD.step call ⟨d,.fC x0,g⟩ s).bind k:=(rfl)
theorem k_slz {x0}:aD.uA call lp ⟨d,.slz x0,g⟩ s k=(aD.step call ⟨d,.slz x0,g⟩ s).bind k:=(rfl)
theorem k_ent {x0}:aD.uA call lp ⟨d,.ent x0,g⟩ s k=(aD.step call ⟨d,.ent x0,g⟩ s).bind k:=(rfl)
theorem k_nxt {x0}:aD.uA call lp ⟨d,.XA x0,g⟩ s k=eM s d g (k0 d x0 s k) k:=(rfl)
theorem Qz {x0}:aD.uA call lp ⟨d,.WA x0,g⟩ s k=(aD.step call ⟨d,.WA x0,g⟩ s).bind k:=(rfl)
end
theorem e_none (d:Option Nat)(op:K)(g:Option (Nat×Bool))(x:SC):aD.eff ⟨d,op,g⟩ s (x,.none)=some (s.put d x):=(rfl)
theorem e_set (d:Option Nat)(op:K)(g:Option (Nat×Bool))(x:SC)(t n:Nat)(r:List SC):aD.eff ⟨d,op,g⟩ s (x,.set t n r)=some ((s.setRow t n r).put d x):=(rfl)
theorem e_newp (d:Nat)(op:K)(g:Option (Nat×Bool))(t n o:Nat)(a:An)(r:List SC):aD.eff ⟨some d,op,g⟩ s (⟨.ptr t n o,a⟩,.new r)=some ((s.setRow d s.next r).put (some d) ⟨.ptr d s.next 0,.no⟩):=(rfl)
theorem e_newr (d:Nat)(op:K)(g:Option (Nat×Bool))(t n z o l p:Nat)(a:An)(r:List SC):aD.eff ⟨some d,op,g⟩ s (⟨.ref t n z o l p,a⟩,.new r)=some ((s.setRow d s.next r).put (some d) ⟨.ref d s.next z o l p,.no⟩):=(rfl)
theorem e_app (d:Nat)(op:K)(g:Option (Nat×Bool))(v:AV)(a:An)(kk j:Nat)(e:TypeId):aD.eff ⟨some d,op,g⟩ s (⟨v,.own kk e⟩,.app a j)=some (((s.zB a).strip d).put (some d) ⟨v,.own d e⟩):=(rfl)
theorem e_obj (d:Option Nat)(op:K)(g:Option (Nat×Bool))(x:SC)(t n:Nat)(S:AV):aD.eff ⟨d,op,g⟩ s (x,.obj t n S)=some ((s.setObj t n S).put d x):=(rfl)
theorem e_mk (d:Nat)(op:K)(g:Option (Nat×Bool))(x:SC)(S:AV):aD.eff ⟨some d,op,g⟩ s (x,.mk S)=some ((s.setObj d s.next S).put (some d) ⟨x.v.named d s.next,.no⟩):=(rfl)
theorem e_rn (d:Nat)(op:K)(g:Option (Nat×Bool))(t n z o l p:Nat)(a:An)(q:Option (Nat×Nat))(r:List SC):aD.eff ⟨some d,op,g⟩ s (⟨.ref t n z o l p,a⟩,.rn q r)=some (((s.zA q).setRow d s.next r).put (some d) ⟨.ref d s.next z o l p,.no⟩):=(rfl)
theorem e_ob2 (d:Nat)(op:K)(g:Option (Nat×Bool))(t n z o l p:Nat)(a:An)(t' n':Nat)(S:AV)(r:List SC):aD.eff ⟨some d,op,g⟩ s (⟨.ref t n z o l p,a⟩,.bB t' n' S r)=some (((s.setObj t' n' S).setRow d s.next r).put (some d) ⟨.ref d s.next z o l p,.no⟩):=(rfl)
theorem run_cg {b:C}{s s':LC}{k:Ex->LC->Option RV}(h:s=s'):C.run call lp b s k=C.run call lp b s' k:=by rw[h]
theorem ops_cg {l:List aD}{s s':LC}{k:LC->Option RV}(h:s=s'):eJ call lp l s k=eJ call lp l s' k:=by rw[h]
theorem Mc {o:aD}{s s':LC}{k:LC->Option RV}(h:s=s'):aD.uA call lp o s k=aD.uA call lp o s' k:=by rw[h]
theorem bind_cg {α β:Type}{a a':Option α}{f:α->Option β}(h:a=a'):a.bind f=a'.bind f:=by rw[h]
theorem Nh {v v':AV}{a b:Option RV}(h:v=v'):U7 v a b=U7 v' a b:=by rw[h]
theorem Ga {v v':AV}{w:Bool}{a b:Option LC}(h:v=v'):FW v w a b=FW v' w a b:=by rw[h]
theorem Ha {v v':AV}{w:Bool}{a b:Option RV}(h:v=v'):GW v w a b=GW v' w a b:=by rw[h]
theorem fnC_cg {v v':AV}{g:Nat->List AV->Option RV}(h:v=v'):fnC v g=fnC v' g:=by rw[h]
theorem evL_cg {T:Nat->Option FD}{ext:sE}{b:C}{s s':LC}{k:Ex->LC->Option RV}(h:s=s'):HJ T ext b s k=HJ T ext b s' k:=by rw[h]
theorem evH_cg {T:Nat->Option FD}{ext:sE}{f:Nat}{xs pk:List SC}{s s':LC}{k:SC->LC->Option RV}(hx:xs=pk)(h:s=s'):Rq T ext f xs s k=Rq T ext f pk s' k:=by rw[h,hx]
end
attribute [congr] run_cg ops_cg Mc bind_cg Nh Ga Ha fnC_cg evL_cg evH_cg
attribute [simp] k_callo k_calln k_callq k_clr k_rng k_slz k_ent k_nxt k_bad k_mkb k_mv k_pick k_alloc k_box k_build k_bsl k_bslr k_load k_store k_bin k_mm k_eqa k_eqn k_un k_conv k_rstr k_bstr k_mks k_slc k_aslc k_faddr k_field k_iaddr k_aaddr k_index k_ext k_call k_callf k_mkf k_callv k_callr k_callh k_len k_app k_appf k_appm k_appn k_mkm k_mget k_mset k_mlen Qz C7 Oq fnC_fn hg_none hg_some h_step opK_at Hh undE_at rowE_at Ea Nc uH GP T1 m_initH m_enter m_leave m_initR m_drop0
attribute [simp] ON CC setO_at p5 s5 SC.strip_v SC.strip_a SC.IC Ib noM_at objE_at PD UD SC.sA SC.kill_a SC.iA
attribute [simp] e_ob2 Nk Xu AV.FA AV.lA I4 N7 AV.kill AV.rA m_kill m_kill0 e_rn m_init m_put m_put0 m_row m_obj m_strip Lz Zz An.strip e_none e_set e_newp e_newr e_app e_obj e_mk K.run EE.get KC AV.leaf AV.whole AV.cells Rh mmC BM XV eD XI Cl.TA Cl.gA nV JJ TZ Ax WL zW AV.free AV.tA AV.back AV.mC AV.NA AV.named KY DH tI gG zS AV.mB GV rK kL AV.elems EE.an EJ Ra wH jL nF qM sO K6
attribute [simp ↓] J9 HF Zd Cc regK_at Oh Dp Ph B9 I7 X7 Iq r_skip wK r_reg r_cond r_block r_loop r_exit r_ret a_nrm a_exit a_ret o_nil o_cons s_plain s_guard
end
def ZC:sE:=fun _ _ _=>none
theorem AW {O:XH}(f:FuncId)(args:List AV)(S:Option AV)(r:RV)(h:ZC f args S=some r):MD Tryz.prog O f args S r:=by cases h
def T2:List (List AV)->Option (List (List UInt8))
 | []=>some []
 | [.str x]::r=>(T2 r).map (x.data.toList :: ·)
 |_=>none
def jnB (sep:List UInt8):List (List UInt8)->List UInt8
 | []=>[]
 | [x]=>x
 |x::r=>x++sep++jnB sep r
def Xa (z:Nat):List AV->Option RV
 |.undef :: .sl b l :: .int .i64 i :: .sl false [x] ::[]=>if 0<=i/\i<=l.length/\l.length<=900/\kD z (x::l)=true/\(b=true->l=[])then some (.sl false (l.take i.toNat++x::l.drop i.toNat),none)else none
 |_=>none
def Xp (z:Nat):List AV->Option RV
 |.undef :: .sl false l :: .int .i64 i :: .int .i64 j ::[]=>if 0<=i/\j=i+1/\j<=l.length/\l.length<=900/\kD z l=true then some (.sl false (l.take i.toNat++l.drop j.toNat),none)else none
 |_=>none
def itoaE:List AV->Option RV
 | [.int .i64 n]=>if 0<=n/\n<100 then some (.str ⟨(if n<10 then [UInt8.ofNat (48+n.toNat)]else [UInt8.ofNat (48+n.toNat / 10),UInt8.ofNat (48+n.toNat%10)]).toArray⟩,none)else none
 |_=>none
def jnE:List AV->Option RV
 | [.sl false l,.str s]=>(T2 l).bind fun xs=>if l.length<=1000/\(jnB s.data.toList xs).length<=140737488355328 then some (.str ⟨(jnB s.data.toList xs).toArray⟩,none)else none
 |_=>none
def uD:sE:=fun f args S =>
 if f=62 then(match S with
  |some (.int .i64 13)=>Xa 13 args
  |_=>none)
 else if f=65 then(match S with
  |some (.int .i64 2)=>Xa 2 args
  |_=>none)
 else if f=63 then(match S with
  |some (.int .i64 13)=>Xp 13 args
  |_=>none)
 else if f=66 then(match S with
  |some (.int .i64 2)=>Xp 2 args
  |_=>none)
 else if f=39 then(match S with
  |none=>itoaE args
  |_=>none)
 else if f=43 then(match S with
  |none=>jnE args
  |_=>none)
 else ZC f args S
abbrev i6 (n:Int):AV:=.int .i64 n
abbrev f6:AV:=.bool false
abbrev t6:AV:=.bool true
abbrev n6:AV:=.sl true []
abbrev e6:AV:=.str ⟨#[]⟩
abbrev i0:AV:=.int .i64 0
def Kg:List ME:=[]
theorem awe_k0:xD MC uD Kg:=xD.nil
abbrev vc:AV:=(.sl false [[(i6 5),(.str (.mk #[82])),i0,i0,i0,n6,(.sl false [[(i6 1),(.str (.mk #[97])),(i6 1),f6,f6,i0,f6,i0,e6,i0,n6,n6,n6]]),i0,i0,f6],[(i6 2),e6,i0,(i6 9),i0,n6,n6,i0,i0,f6]])
abbrev ve:AV:=(.sl false [[(i6 1),(.str (.mk #[97])),(i6 1),f6,f6,i0,f6,i0,e6,i0,n6,n6,n6],[(i6 2),(.str (.mk #[98])),(i6 1),f6,t6,(i6 2),f6,i0,e6,i0,n6,n6,n6]])
abbrev vf:AV:=(.sl false [[(i6 5),(.str (.mk #[82])),i0,i0,i0,n6,(.sl false [[(i6 1),(.str (.mk #[97])),(i6 1),f6,f6,i0,f6,i0,e6,i0,n6,n6,n6],[(i6 2),(.str (.mk #[98])),(i6 1),f6,f6,i0,f6,i0,e6,i0,n6,n6,n6]]),i0,i0,f6],[(i6 2),e6,i0,(i6 9),i0,n6,n6,i0,i0,f6]])
abbrev vg:AV:=(.sl false [[(i6 5),(.str (.mk #[82])),i0,i0,i0,n6,ve,i0,i0,f6],[(i6 2),e6,i0,(i6 9),i0,n6,n6,i0,i0,f6]])
abbrev vh:AV:=(.sl false [[(i6 5),(.str (.mk #[82])),i0,i0,i0,n6,ve,i0,i0,f6],[(i6 2),e6,i0,(i6 5),i0,n6,n6,i0,i0,f6]])
abbrev vi:AV:=(.fA [(.sl false [[i0,i0],[(i6 1),(i6 1)]]),(.sl false [[(i6 (-1))],[i0]])])
abbrev vj:AV:=(.agg [vc])
abbrev vk:AV:=(.agg [vc,i0])
abbrev vl:AV:=(.sl false [[(i6 1),i0,i0,e6,(i6 2),(.str (.mk #[98])),(i6 1),f6,t6,(i6 2),f6,i0,e6,i0,n6,n6,n6,i0,e6,i0,i0,i0,f6,i0,i0]])
abbrev vm:AV:=(.sl false [[(i6 1),(i6 1)]])
abbrev vn:AV:=(.agg [vg])
abbrev vp:AV:=(.agg [vh])
abbrev vq:AV:=(.agg [vf])
abbrev vr:AV:=(.fA [(.sl false [[t6],[t6]]),i0])
abbrev vt:AV:=(.fA [n6,i0,(i6 15)])
abbrev vu:AV:=(.sl false [[(i6 2)],[(i6 2)]])
abbrev vv:AV:=(.agg [vh,i0])
abbrev vw:AV:=(.agg [vg,i0])
abbrev vz:AV:=(.agg [vf,i0])
def Lg:List ME:=⟨13,[],none,(vj,none)⟩::Kg
theorem awe_k1:xD MC uD Lg:=awe_k0.more 3000 _ (by kernel_rfl)
def Zg:List ME:=⟨14,[f6],none,((.agg [(i6 1),i0,i0,e6,(i6 2),(.str (.mk #[98])),(i6 1),f6,f6,i0,f6,i0,e6,i0,n6,n6,n6,i0,e6,i0,i0,i0,f6,i0,i0]),none)⟩::Lg
theorem awe_k2:xD MC uD Zg:=awe_k1.more 3000 _ (by kernel_rfl)
def Xg:List ME:=⟨19,[vj],none,(i0,none)⟩::Zg
theorem awe_k3:xD MC uD Xg:=awe_k2.more 3000 _ (by kernel_rfl)
def Cg:List ME:=⟨19,[vq],none,(i0,none)⟩::Xg
theorem awe_k4:xD MC uD Cg:=awe_k3.more 3000 _ (by kernel_rfl)
def Bg:List ME:=⟨8,[vj,(.sl false [[(i6 1),i0,i0,e6,(i6 2),(.str (.mk #[98])),(i6 1),f6,f6,i0,f6,i0,e6,i0,n6,n6,n6,i0,e6,i0,i0,i0,f6,i0,i0]])],none,((.fA [vq,(i6 1),i0]),none)⟩::Cg
theorem awe_k5:xD MC uD Bg:=awe_k4.more 3000 _ (by kernel_rfl)
def Ng:List ME:=⟨14,[t6],none,((.agg [(i6 1),i0,i0,e6,(i6 2),(.str (.mk #[98])),(i6 1),f6,t6,(i6 2),f6,i0,e6,i0,n6,n6,n6,i0,e6,i0,i0,i0,f6,i0,i0]),none)⟩::Bg
theorem awe_k6:xD MC uD Ng:=awe_k5.more 3000 _ (by kernel_rfl)
def Mg:List ME:=⟨19,[vn],none,(i0,none)⟩::Ng
theorem awe_k7:xD MC uD Mg:=awe_k6.more 3000 _ (by kernel_rfl)
def Qh:List ME:=⟨8,[vj,vl],none,((.fA [vn,(i6 1),i0]),none)⟩::Mg
theorem awe_k8:xD MC uD Qh:=awe_k7.more 3000 _ (by kernel_rfl)
def Wh:List ME:=⟨125,[vj],none,((.fA [i0,i0,i0]),none)⟩::Qh
theorem awe_k9:xD MC uD Wh:=awe_k8.more 3000 _ (by kernel_rfl)
def Se:List ME:=⟨97,[vj],none,(i0,none)⟩::Wh
theorem Pb:xD MC uD Se:=awe_k9.more 3000 _ (by kernel_rfl)
def De:List ME:=⟨98,[vj],none,(vu,none)⟩::Se
theorem Ab:xD MC uD De:=Pb.more 3000 _ (by kernel_rfl)
def Fe:List ME:=⟨70,[vj],none,(vr,none)⟩::De
theorem Sb:xD MC uD Fe:=Ab.more 3000 _ (by kernel_rfl)
def Ge:List ME:=⟨36,[vj],none,(i0,none)⟩::Fe
theorem Db:xD MC uD Ge:=Sb.more 3000 _ (by kernel_rfl)
def Je:List ME:=⟨125,[vq],none,((.fA [i0,i0,i0]),none)⟩::Ge
theorem Fb:xD MC uD Je:=Db.more 3000 _ (by kernel_rfl)
def Ke:List ME:=⟨97,[vq],none,(i0,none)⟩::Je
theorem Gb:xD MC uD Ke:=Fb.more 3000 _ (by kernel_rfl)
def Ze:List ME:=⟨98,[vq],none,(vu,none)⟩::Ke
theorem Hb:xD MC uD Ze:=Gb.more 3000 _ (by kernel_rfl)
def Xe:List ME:=⟨70,[vq],none,(vr,none)⟩::Ze
theorem Jb:xD MC uD Xe:=Hb.more 3000 _ (by kernel_rfl)
def Ce:List ME:=⟨36,[vq],none,(i0,none)⟩::Xe
theorem Kb:xD MC uD Ce:=Jb.more 3000 _ (by kernel_rfl)
def Be:List ME:=⟨128,[vq,i0,vj,i0],none,(vm,none)⟩::Ce
theorem Lb:xD MC uD Be:=Kb.more 3000 _ (by kernel_rfl)
def Qr:List ME:=⟨128,[vq,(i6 1),vj,(i6 1)],none,(n6,none)⟩::Be
theorem Zb:xD MC uD Qr:=Lb.more 3000 _ (by kernel_rfl)
def Wr:List ME:=⟨100,[vz,vk],none,(vi,none)⟩::Qr
theorem Xb:xD MC uD Wr:=Zb.more 3000 _ (by kernel_rfl)
def Er:List ME:=⟨101,[vq,i0,vj,i0],none,(i0,none)⟩::Wr
theorem Cb:xD MC uD Er:=Xb.more 3000 _ (by kernel_rfl)
def Rr:List ME:=⟨101,[vq,(i6 1),vj,(i6 1)],none,(i0,none)⟩::Er
theorem Bb:xD MC uD Rr:=Cb.more 3000 _ (by kernel_rfl)
def Ur:List ME:=⟨71,[vz,vk],none,(vt,none)⟩::Rr
theorem Nb:xD MC uD Ur:=Bb.more 3000 _ (by kernel_rfl)
def Ir:List ME:=⟨37,[vz,vk],none,((.fA [t6,i0]),none)⟩::Ur
theorem Mb:xD MC uD Ir:=Nb.more 3000 _ (by kernel_rfl)
def Ar:List ME:=⟨128,[vj,i0,vq,i0],none,(vm,none)⟩::Ir
theorem Qn:xD MC uD Ar:=Mb.more 3000 _ (by kernel_rfl)
def Sr:List ME:=⟨128,[vj,(i6 1),vq,(i6 1)],none,(n6,none)⟩::Ar
theorem Wn:xD MC uD Sr:=Qn.more 3000 _ (by kernel_rfl)
def Dr:List ME:=⟨100,[vk,vz],none,(vi,none)⟩::Sr
theorem En:xD MC uD Dr:=Wn.more 3000 _ (by kernel_rfl)
def Fr:List ME:=⟨101,[vj,i0,vq,i0],none,((i6 7),none)⟩::Dr
theorem Rn:xD MC uD Fr:=En.more 3000 _ (by kernel_rfl)
def Gr:List ME:=⟨71,[vk,vz],none,((.fA [(.sl false [[i0,i0]]),(i6 7),i0]),none)⟩::Fr
theorem Tn:xD MC uD Gr:=Rn.more 3000 _ (by kernel_rfl)
def Hr:List ME:=⟨37,[vk,vz],none,((.fA [f6,i0]),none)⟩::Gr
theorem Un:xD MC uD Hr:=Tn.more 3000 _ (by kernel_rfl)
def Jr:List ME:=⟨15,[vj,vq,i0],none,((.fA [t6,f6,i0]),none)⟩::Hr
theorem Pn:xD MC uD Jr:=Un.more 3000 _ (by kernel_rfl)
def Kr:List ME:=⟨125,[vn],none,((.fA [i0,i0,i0]),none)⟩::Jr
theorem Sn:xD MC uD Kr:=Pn.more 3000 _ (by kernel_rfl)
def Lr:List ME:=⟨97,[vn],none,(i0,none)⟩::Kr
theorem Dn:xD MC uD Lr:=Sn.more 3000 _ (by kernel_rfl)
def Zr:List ME:=⟨98,[vn],none,(vu,none)⟩::Lr
theorem Fn:xD MC uD Zr:=Dn.more 3000 _ (by kernel_rfl)
def Cr:List ME:=⟨70,[vn],none,(vr,none)⟩::Zr
theorem Gn:xD MC uD Cr:=Fn.more 3000 _ (by kernel_rfl)
def Br:List ME:=⟨36,[vn],none,(i0,none)⟩::Cr
theorem Hn:xD MC uD Br:=Gn.more 3000 _ (by kernel_rfl)
def Nr:List ME:=⟨128,[vn,i0,vj,i0],none,(vm,none)⟩::Br
theorem Jn:xD MC uD Nr:=Hn.more 3000 _ (by kernel_rfl)
def Mr:List ME:=⟨128,[vn,(i6 1),vj,(i6 1)],none,(n6,none)⟩::Nr
theorem Ln:xD MC uD Mr:=Jn.more 3000 _ (by kernel_rfl)
def Qt:List ME:=⟨100,[vw,vk],none,(vi,none)⟩::Mr
theorem Zn:xD MC uD Qt:=Ln.more 3000 _ (by kernel_rfl)
def Wt:List ME:=⟨101,[vn,i0,vj,i0],none,(i0,none)⟩::Qt
theorem Xn:xD MC uD Wt:=Zn.more 3000 _ (by kernel_rfl)
def Et:List ME:=⟨101,[vn,(i6 1),vj,(i6 1)],none,(i0,none)⟩::Wt
theorem Cn:xD MC uD Et:=Xn.more 3000 _ (by kernel_rfl)
def Rt:List ME:=⟨71,[vw,vk],none,(vt,none)⟩::Et
theorem Bn:xD MC uD Rt:=Cn.more 3000 _ (by kernel_rfl)
def Tt:List ME:=⟨37,[vw,vk],none,((.fA [t6,i0]),none)⟩::Rt
theorem Nn:xD MC uD Tt:=Bn.more 3000 _ (by kernel_rfl)
def Ut:List ME:=⟨128,[vj,i0,vn,i0],none,(vm,none)⟩::Tt
theorem Mn:xD MC uD Ut:=Nn.more 3000 _ (by kernel_rfl)
def It:List ME:=⟨128,[vj,(i6 1),vn,(i6 1)],none,(n6,none)⟩::Ut
theorem Qm:xD MC uD It:=Mn.more 3000 _ (by kernel_rfl)
def Ot:List ME:=⟨100,[vk,vw],none,(vi,none)⟩::It
theorem Wm:xD MC uD Ot:=Qm.more 3000 _ (by kernel_rfl)
def Pt:List ME:=⟨101,[vj,i0,vn,i0],none,(i0,none)⟩::Ot
theorem Em:xD MC uD Pt:=Wm.more 3000 _ (by kernel_rfl)
def St:List ME:=⟨101,[vj,(i6 1),vn,(i6 1)],none,(i0,none)⟩::Pt
theorem Rm:xD MC uD St:=Em.more 3000 _ (by kernel_rfl)
def Dt:List ME:=⟨71,[vk,vw],none,(vt,none)⟩::St
theorem Tm:xD MC uD Dt:=Rm.more 3000 _ (by kernel_rfl)
def Ft:List ME:=⟨37,[vk,vw],none,((.fA [t6,i0]),none)⟩::Dt
theorem Um:xD MC uD Ft:=Tm.more 3000 _ (by kernel_rfl)
def Gt:List ME:=⟨15,[vj,vn,i0],none,((.fA [t6,t6,i0]),none)⟩::Ft
theorem Im:xD MC uD Gt:=Um.more 3000 _ (by kernel_rfl)
def Ht:List ME:=⟨128,[vj,i0,vj,i0],none,(vm,none)⟩::Gt
theorem Om:xD MC uD Ht:=Im.more 3000 _ (by kernel_rfl)
def Jt:List ME:=⟨128,[vj,(i6 1),vj,(i6 1)],none,(n6,none)⟩::Ht
theorem Pm:xD MC uD Jt:=Om.more 3000 _ (by kernel_rfl)
def Kt:List ME:=⟨100,[vk,vk],none,(vi,none)⟩::Jt
theorem Am:xD MC uD Kt:=Pm.more 3000 _ (by kernel_rfl)
def Lt:List ME:=⟨101,[vj,i0,vj,i0],none,(i0,none)⟩::Kt
theorem Sm:xD MC uD Lt:=Am.more 3000 _ (by kernel_rfl)
def Zt:List ME:=⟨101,[vj,(i6 1),vj,(i6 1)],none,(i0,none)⟩::Lt
theorem Dm:xD MC uD Zt:=Sm.more 3000 _ (by kernel_rfl)
def Xt:List ME:=⟨71,[vk,vk],none,(vt,none)⟩::Zt
theorem Fm:xD MC uD Xt:=Dm.more 3000 _ (by kernel_rfl)
def Ct:List ME:=⟨37,[vk,vk],none,((.fA [t6,i0]),none)⟩::Xt
theorem Gm:xD MC uD Ct:=Fm.more 3000 _ (by kernel_rfl)
def Bt:List ME:=⟨15,[vj,vj,i0],none,((.fA [t6,t6,i0]),none)⟩::Ct
theorem Hm:xD MC uD Bt:=Gm.more 3000 _ (by kernel_rfl)
def Nt:List ME:=⟨19,[vp],none,(i0,none)⟩::Bt
theorem Jm:xD MC uD Nt:=Hm.more 3000 _ (by kernel_rfl)
def Mt:List ME:=⟨125,[vp],none,((.fA [i0,i0,i0]),none)⟩::Nt
theorem Km:xD MC uD Mt:=Jm.more 3000 _ (by kernel_rfl)
def Qy:List ME:=⟨97,[vp],none,(i0,none)⟩::Mt
theorem Lm:xD MC uD Qy:=Km.more 3000 _ (by kernel_rfl)
def Wy:List ME:=⟨98,[vp],none,(vu,none)⟩::Qy
theorem Zm:xD MC uD Wy:=Lm.more 3000 _ (by kernel_rfl)
def Ey:List ME:=⟨70,[vp],none,(vr,none)⟩::Wy
theorem Xm:xD MC uD Ey:=Zm.more 3000 _ (by kernel_rfl)
def Ry:List ME:=⟨36,[vp],none,(i0,none)⟩::Ey
theorem Cm:xD MC uD Ry:=Xm.more 3000 _ (by kernel_rfl)
def Uy:List ME:=⟨128,[vp,i0,vj,i0],none,(vm,none)⟩::Ry
theorem Bm:xD MC uD Uy:=Cm.more 3000 _ (by kernel_rfl)
def Iy:List ME:=⟨128,[vp,(i6 1),vj,(i6 1)],none,(n6,none)⟩::Uy
theorem Nm:xD MC uD Iy:=Bm.more 3000 _ (by kernel_rfl)
def Oy:List ME:=⟨100,[vv,vk],none,(vi,none)⟩::Iy
theorem Mm:xD MC uD Oy:=Nm.more 3000 _ (by kernel_rfl)
def Py:List ME:=⟨101,[vp,i0,vj,i0],none,(i0,none)⟩::Oy
theorem awe_k70:xD MC uD Py:=Mm.more 3000 _ (by kernel_rfl)
def Ay:List ME:=⟨101,[vp,(i6 1),vj,(i6 1)],none,(i0,none)⟩::Py
theorem awe_k71:xD MC uD Ay:=awe_k70.more 3000 _ (by kernel_rfl)
def Sy:List ME:=⟨71,[vv,vk],none,(vt,none)⟩::Ay
theorem awe_k72:xD MC uD Sy:=awe_k71.more 3000 _ (by kernel_rfl)
def Dy:List ME:=⟨37,[vv,vk],none,((.fA [t6,i0]),none)⟩::Sy
theorem awe_k73:xD MC uD Dy:=awe_k72.more 3000 _ (by kernel_rfl)
def Fy:List ME:=⟨128,[vj,i0,vp,i0],none,(vm,none)⟩::Dy
theorem awe_k74:xD MC uD Fy:=awe_k73.more 3000 _ (by kernel_rfl)
def Gy:List ME:=⟨128,[vj,(i6 1),vp,(i6 1)],none,(n6,none)⟩::Fy
theorem awe_k75:xD MC uD Gy:=awe_k74.more 3000 _ (by kernel_rfl)
def Hy:List ME:=⟨100,[vk,vv],none,(vi,none)⟩::Gy
theorem awe_k76:xD MC uD Hy:=awe_k75.more 3000 _ (by kernel_rfl)
def Jy:List ME:=⟨101,[vj,i0,vp,i0],none,(i0,none)⟩::Hy
theorem awe_k77:xD MC uD Jy:=awe_k76.more 3000 _ (by kernel_rfl)
def Ky:List ME:=⟨101,[vj,(i6 1),vp,(i6 1)],none,((i6 2),none)⟩::Jy
theorem awe_k78:xD MC uD Ky:=awe_k77.more 3000 _ (by kernel_rfl)
def Ly:List ME:=⟨71,[vk,vv],none,((.fA [(.sl false [[i0,i0],[(i6 1),(i6 1)]]),(i6 2),i0]),none)⟩::Ky
theorem awe_k79:xD MC uD Ly:=awe_k78.more 3000 _ (by kernel_rfl)
def Zy:List ME:=⟨37,[vk,vv],none,((.fA [f6,i0]),none)⟩::Ly
theorem awe_k80:xD MC uD Zy:=awe_k79.more 3000 _ (by kernel_rfl)
def Xy:List ME:=⟨15,[vj,vp,i0],none,((.fA [t6,f6,i0]),none)⟩::Zy
theorem awe_k81:xD MC uD Xy:=awe_k80.more 3000 _ (by kernel_rfl)
def Cy:List ME:=⟨16,[vj,i0,(.sl false [[(i6 1),i0,i0,e6,(i6 2),(.str (.mk #[98])),(i6 1),f6,t6,(i6 2),f6,i0,e6,i0,n6,n6,n6,i0,e6,i0,i0,i0,f6,i0,i0],[(i6 7),(i6 1),i0,e6,i0,e6,i0,f6,f6,i0,f6,i0,e6,i0,n6,n6,n6,i0,e6,i0,(i6 5),i0,f6,i0,i0]])],none,((.fA [(i6 1),i0]),none)⟩::Xy
theorem awe_k82:xD MC uD Cy:=awe_k81.more 3000 _ (by kernel_rfl)
def Ny:List ME:=⟨6,[vj,vn],none,((.fA [vl,i0]),none)⟩::Cy
theorem awe_k83:xD MC uD Ny:=awe_k82.more 3000 _ (by kernel_rfl)
def My:List ME:=⟨17,[vl,vl],none,(t6,none)⟩::Ny
theorem awe_k84:xD MC uD My:=awe_k83.more 3000 _ (by kernel_rfl)
def Qu:List ME:=⟨18,[(.agg [(i6 1),i0,i0,e6,(i6 2),(.str (.mk #[98])),(i6 1),f6,t6,(i6 2),f6,i0,e6,i0,n6,n6,n6,i0,e6,i0,i0,i0,f6,i0,i0])],none,((.str (.mk #[97,100,100,32,48,32,50,32,98,32,49,32,100,101,102,97,117,108,116])),none)⟩::My
theorem awe_k85:xD MC uD Qu:=awe_k84.more 3000 _ (by kernel_rfl)
theorem Sp:xD MC uD Qu:=awe_k85
abbrev evE (f:FuncId)(args:List AV)(r:AV):Prop:=sF MC uD f args none=some (r,none)
theorem F9:evE 5 [] (.bool true):=Sp.run 3000 (by kernel_rfl)
section
open Go Go.RowKit Go.ChangeShapes Go.WideShapes Go.Deep
def aU (P:Program)(r:TypeId->List AV->Prop):List Field->List AV->Prop
 | [],md=>md=[]
 |f::fs,md=>∃a b,md=a++b/\a.length=P.cellsOf f.type/\r f.type a/\aU P r fs b
def ArrT (P:Program)(r:TypeId->List AV->Prop)(e:TypeId):Nat->List AV->Prop
 |0,md=>md=[]
 |n+1,md=>∃a b,md=a++b/\a.length=P.cellsOf e/\r e a/\ArrT P r e n b
def OP (P:Program):Nat->TypeId->List AV->Prop
 |0,_,_=>False
 |n+1,t,md=>match P.underlying t with
  |some .bool=>∃b,md=[.bool b]
  |some (.int k)=>∃i,md=[.int k i]/\(Lit.int k i).wf=true
  |some .string=>∃s,md=[.str s]/\s.size<=maxLen/\s.size<=reachBytes
  |some (.slice e)=>∃nl els,md=[.sl nl els]/\els.length<=maxLen/\els.length*P.bytesOf e<=reachBytes/\(nl=true->els=[])/\∀x∈els,x.length=P.cellsOf e/\OP P n e x
  |some (.struct fs)=>aU P (OP P n) fs.toList md
  |some (.array k e)=>ArrT P (OP P n) e k md
  |_=>False
def PZ (P:Program)(ts:List TypeId):Nat->Nat->List Field->Bool
 |off,total,[]=>decide (off=total)
 |off,total,f::fs=>decide (f.offset=off)&&ts.contains f.type&&PZ P ts (off+P.cellsOf f.type) total fs
def gS (P:Program)(ts:List TypeId)(t:TypeId):Bool:=match P.underlying t with
 |some .bool|some (.int _)|some .string=>decide (P.cellsOf t=1)
 |some (.slice e)=>ts.contains e&&decide (0<P.cellsOf e)&&decide (P.cellsOf t=1)
 |some (.struct fs)=>PZ P ts 0 (P.cellsOf t) fs.toList
 |some (.array k e)=>ts.contains e&&decide (0<P.cellsOf e)&&decide (k*P.cellsOf e=P.cellsOf t)
 |_=>false
section
variable {H:Type} {enc:TypeId × Value->H} {P:Program} {w:World} {base:Nat} {spare:Nat->Bool} {held:Bool}
theorem S8 {t e:TypeId}{fuel:Nat}{cs:List Value}{x:DataW H×List MemPlace}(ht:P.underlying t=some (.slice e))(h:DataW.trod enc P w base spare held fuel t cs=some x):
  (∃n,fuel=n+1)/\((cs=[.slice none 0 0]) ∨
  ∃(a:Addr)(len cap n:Nat)(y:Nat->DataW H×List MemPlace)(D sp:List (DataW H)),cs=[.slice (some a) len cap]/\fuel=n+1/\len<=cap/\cap<=maxLen/\x.1=.slice D sp/\D.length=len/\(∀i,i<len->(y i).1∈D) ∧
   ∀i,i<len->∃oy,w.cells? base (a.add (i*P.cellsOf e)) (P.cellsOf e)=some oy/\DataW.trod enc P w base spare held n e oy=some (y i)):=by
 refine⟨?_,?_⟩
 ·cases fuel with
  |zero=>simp[DataW.trod]at h
  |succ n=>exact⟨n,rfl⟩
 rcases DataW.trod_slice ht h with h0|⟨a,len,cap,elems,rest,n,hfu,rfl,rfl,hb,hl,hm,da,fb,hsp,hns⟩
 ·exact Or.inl h0.1
 right;refine⟨a,len,cap,n,fun i=>elems.getD i (.nil,[]),elems.map (·.1),rest.map (·.1),rfl,hfu,hl,hm,rfl,by simpa using da,fun i hi=>?_,fun i hi=>?_⟩
 ·have e:elems.getD i (.nil,[])=elems[i]'(by omega):=by simp [List.getD,yf (show i<elems.length by omega)]
  show(elems.getD i (.nil,[])).1∈_;rw[e];exact List.mem_map_of_mem (yC _)
 have key:=fb i hi;rw[yf (by omega)]at key;obtain⟨oy,h1,h2⟩:=yh.1 key;refine⟨oy,h1,?_⟩;rw[h2];simp[List.getD,yf (show i<elems.length by omega)]
theorem JS {e:TypeId}:∀{D:List (DataW H)}{d:DataW H},d∈D->∀m∈d.weights P e,m∈DataW.weightsAll P e D
 |d0::r,d,h,m,hm=>by
  simp only[DataW.weightsAll,yu];rcases yt.1 h with rfl|h
  ·exact .inl hm
  ·exact .inr (JS h m hm)
def jO (P:Program)(t:TypeId)(d:DataW H):Prop:=∀m∈d.weights P t,m<=reachBytes
section
variable {t e:TypeId} {D sp:List (DataW H)} (ht:P.underlying t=some (.slice e)) (h:jO P t (.slice D sp))
include t e D sp ht h
theorem Kq {d:DataW H}(hd:d∈D):jO P e d:=fun m hm=>h m (by
 simp only[DataW.weights,ht,yt,yu];exact .inr (.inl (JS hd m hm)))
theorem Gs:D.length*P.bytesOf e<=reachBytes:=by
 have:=h ((D.length+sp.length)*P.bytesOf e) (by simp[DataW.weights,ht]);exact yH (Y0e _ (by omega)) this
end
theorem Fs {t e:TypeId}{k:Nat}{D:List (DataW H)}(ht:P.underlying t=some (.array k e))(h:jO P t (.agg D)){d:DataW H}(hd:d∈D):jO P e d:=fun m hm=>h m (by
 simp only[DataW.weights,ht];exact JS hd m hm)
theorem j8 {t:TypeId}{fs:Array Field}{D:List (DataW H)}(ht:P.underlying t=some (.struct fs))(h:jO P t (.agg D)){i:Nat}{f:Field}{d:DataW H}(hf:fs.toList[i]?=some f)(hd:D[i]?=some d):jO P f.type d:=fun m hm=>h m (by
 simp only[DataW.weights,ht];exact DataW.weights_mem_each (j:=i) (by rw[yk,hf];rfl) hd m hm)
theorem G7 {ts:List TypeId}{n:Nat}{cs:List Value}
  (ih:∀(t:TypeId)(cs:List Value)(x:DataW H×List MemPlace),ts.contains t=true->jO P t x.1->DataW.trod enc P w base spare held n t cs=some x->∃md,eE Xo w md cs/\OP P n t md/\md.length=P.cellsOf t) :
  ∀(fs:List Field)(off:Nat),PZ P ts off cs.length fs=true->(∀f∈fs,∃x,jO P f.type x.1/\DataW.trod enc P w base spare held n f.type ((cs.drop f.offset).take (P.cellsOf f.type))=some x)->∃md,eE Xo w md (cs.drop off)/\aU P (OP P n) fs md
 | [],off,h,_=>by
  simp only[PZ,decide_eq_true_eq]at h;refine⟨[],?_,rfl⟩;rw[yw (by omega)];rfl
 |f::fs,off,h,hx=>by
  simp only[PZ,yg,decide_eq_true_eq]at h;obtain⟨⟨ho,ht⟩,h⟩:=h;obtain⟨x,ba,I9⟩:=hx f yo;obtain⟨md,h1,h2,tg⟩:=ih _ _ _ ht ba I9;obtain⟨bs,h3,h4⟩:=G7 ih fs (off+P.cellsOf f.type) h fun g hg=>hx g (yp _ hg)
  refine⟨md++bs,?_,md,bs,rfl,tg,h2,h4⟩;have:cs.drop off=(cs.drop off).take (P.cellsOf f.type)++cs.drop (off+P.cellsOf f.type):=by rw[<- List.drop_drop,Y0c]
  rw[this];rw[ho]at h1;exact fH h1 h3
theorem Oe {e:TypeId}{n:Nat}{cs:List Value}(f:∀i:Nat,i*P.cellsOf e<cs.length->∃md,eE Xo w md ((cs.drop (i*P.cellsOf e)).take (P.cellsOf e))/\OP P n e md/\md.length=P.cellsOf e)(hp:0<P.cellsOf e):
  ∀(m i:Nat),(i+m)*P.cellsOf e=cs.length->∃md,eE Xo w md (cs.drop (i*P.cellsOf e))/\ArrT P (OP P n) e m md
 |0,i,h=>by
  refine⟨[],?_,rfl⟩;rw[yw (by simp at h;omega)];rfl
 |m+1,i,h=>by
  have h1:(i+1+m)*P.cellsOf e=cs.length:=by rw[<- h];congr 1;omega
  have hs:(i+1)*P.cellsOf e=i*P.cellsOf e+P.cellsOf e:=yN i _;have ba:i*P.cellsOf e<cs.length:=by
   have:(i+1)*P.cellsOf e<=(i+(m+1))*P.cellsOf e:=Y0e _ (by omega);omega
  obtain⟨md,g1,g2,g2'⟩:=f i ba;obtain⟨av2,g3,g4⟩:=Oe f hp m (i+1) h1;refine⟨md++av2,?_,md,av2,rfl,g2',g2,g4⟩;have:cs.drop (i*P.cellsOf e)=(cs.drop (i*P.cellsOf e)).take (P.cellsOf e)++cs.drop ((i+1)*P.cellsOf e):=by rw[hs,<- List.drop_drop,Y0c]
  rw[this];exact fH g1 g3
theorem QI {av:Av}:∀{l:List AV}{us:List Value},eE av w l us->l.length=us.length
 | [],us,h=>by simp only[eE]at h;subst h;rfl
 |a::r,us,h=>by
  simp only[eE]at h;obtain⟨u,gb,rfl,_,_,h⟩:=h;simp[QI h]
theorem L6 {ts:List TypeId}(hg:ts.all (gS P ts)=true):∀(n:Nat)(t:TypeId)(cs:List Value)(x:DataW H×List MemPlace),ts.contains t=true->jO P t x.1->DataW.trod enc P w base spare held n t cs=some x->∃md,eE Xo w md cs/\OP P n t md/\md.length=P.cellsOf t
 |0,t,cs,x,_,_,hx=>by simp[DataW.trod]at hx
 |n+1,t,cs,x,pd,hlw,hx=>by
  have h:gS P ts t=true:=ye.1 hg t (by simpa using pd);unfold gS at h;split at h
  ·rename_i ht;simp only[decide_eq_true_eq]at h;obtain⟨b,rfl,_⟩:=DataW.trod_bool ht hx;exact⟨[.bool b],⟨_,_,rfl,rfl,rfl,rfl⟩,by simp only[OP,ht];exact⟨b,rfl⟩,by simp[h]⟩
  ·rename_i kk ht;simp only[decide_eq_true_eq]at h;obtain⟨b,rfl,_,hw⟩:=DataW.trod_int ht hx;exact⟨[.int kk b],⟨_,_,rfl,rfl,rfl,rfl⟩,by simp only[OP,ht];exact⟨b,rfl,hw⟩,by simp[h]⟩
  ·rename_i ht;simp only[decide_eq_true_eq]at h;obtain⟨b,rfl,hd,hw⟩:=DataW.trod_string ht hx;exact⟨[.str b],⟨_,_,rfl,rfl,rfl,rfl⟩,by simp only[OP,ht];exact⟨b,rfl,hw,hlw _ (by rw[hd];exact yU.2 Array.length_toList.symm)⟩,by simp[h]⟩
  ·rename_i e ht;simp only [yg,decide_eq_true_eq] at h;obtain ⟨⟨he,gc⟩,wq⟩:=h;rcases (S8 ht hx).2 with rfl | ⟨a,len,cap,n',y,D,sp,rfl,hn,bc,wk,hxe,hDl,hyD,hi⟩
   ·exact⟨[.sl true []],⟨_,_,rfl,⟨none,0,rfl,yl _,(fun _ h=>by cases h),fun _=>⟨rfl,rfl,rfl⟩,fun h=>by cases h⟩,rfl,rfl⟩,by simp only[OP,ht];exact⟨true,[],rfl,Nat.zero_le _,by simp,fun _=>rfl,(fun _ h=>by cases h)⟩,by simp[wq]⟩
   ·have im:n'=n:=by omega
    subst im;rw[hxe]at hlw;have gn:=Gs ht hlw;rw[hDl]at gn;have ja:∀i:Nat,∃md:List AV,i<len->((md.length=P.cellsOf e/\OP P n' e md)/\∃us,eE Xo w md us/\us.length=P.cellsOf e/\∀j,j<P.cellsOf e->w.cell? ((a.add (i*P.cellsOf e)).add j)=us[j]?):=fun i=>by
     by_cases ba:i<len
     ·obtain⟨us,wq,hc2⟩:=hi i (by omega);obtain⟨md,h1,h2,tg⟩:=L6 hg n' e us _ he (Kq ht hlw (hyD i ba)) hc2;obtain⟨_,g1,g2⟩:=World.cells?_some wq;exact⟨md,fun _=>⟨⟨tg,h2⟩,us,h1,g1,g2⟩⟩
     ·exact⟨[],fun h=>absurd h ba⟩
    have rp:=Classical.axiomOfChoice ja;obtain⟨f,hf⟩:=rp;have dd:∀md∈(List.range len).map f,md.length=P.cellsOf e/\OP P n' e md:=fun md ha=>by
     obtain⟨i,ee,rfl⟩:=yD.1 ha;exact(hf i (List.mem_range.1 ee)).1
    refine⟨[.sl false ((List.range len).map f)],⟨_,_,rfl,⟨some a,cap,by simp,by simpa using bc,fun x hx y hy=>((dd x hx).1).trans ((dd y hy).1).symm,(fun h=>by cases h),fun _=>⟨fun h=>(by cases h),fun h0=>?_⟩⟩,rfl,rfl⟩,by simp only[OP,ht];exact⟨false,_,rfl,by simp;omega,by simpa using gn,(fun h=>by cases h),dd⟩,by simp[wq]⟩;have xg:0<len:=by simpa using h0
    have hspot:∃b off,a=⟨b,off,none⟩:=by
     obtain⟨_,us,_,g1,g2⟩:=hf 0 xg;have g3:=g2 0 gc;simp only[Nat.zero_mul,Addr.add,if_true]at g3;rw[yf (by omega)]at g3;obtain⟨b,off,sp⟩:=a;cases sp with
     |none=>exact⟨b,off,rfl⟩
     |some q =>
      simp only[World.cell?]at g3;split at g3
      ·simp at g3
      ·cases g3
    obtain⟨b,off,rfl⟩:=hspot;refine⟨b,off,rfl,Te (fun x hx=>(dd x hx).1) fun i md dl=>?_⟩;rw[yk]at dl;obtain⟨i',ee,rfl⟩:=yq.1 dl;rw[yn]at ee;obtain⟨ba,uh⟩:=ee;simp at ba uh;subst uh;obtain⟨_,us,g0,g1,g2⟩:=hf i ba;refine EM g0 fun j u hu=>⟨?_,fun h=>h⟩
    have hj:j<P.cellsOf e:=by rw[<- g1];exact(yn.1 hu).1
    have:=g2 j hj;rw[Addr.add_lit,Addr.add_lit,hu]at this;exact this
  ·rename_i fs ht;obtain ⟨xs,n',hn,rfl,da,hxl,hf⟩:=DataW.trod_struct ht hx;have im:n'=n:=by omega
   subst im;rw[<- da]at h;obtain⟨md,h1,h2⟩:=G7 (cs:=cs) (n:=n') (fun t cs x=>L6 hg n' t cs x) fs.toList 0 h fun g hg=>by
    obtain⟨i,hi,he⟩:=Y0k hg;have ee:i<fs.size:=by simpa using hi
    have h1:=hf i g (by rw[<- he];simp[ee]);refine⟨xs[i]'(by omega),j8 ht hlw (i:=i) (f:=g) (by rw[<- he];simp[ee]) ?_,by rw[h1];exact yf (by omega)⟩;rw[yk,yf (by omega)];rfl
   rw[Y05]at h1;exact⟨md,h1,by simp only[OP,ht];exact h2,(QI h1).trans da⟩
  ·rename_i k e ht;simp only [yg,decide_eq_true_eq] at h;obtain ⟨⟨he,gc⟩,wq⟩:=h;obtain ⟨xs,m,hm,rfl,da,hxl,hf⟩:=DataW.trod_array ht hx;have we:m=n:=by omega
   subst we;obtain⟨md,h1,h2⟩:=Oe (cs:=cs) (n:=m) (e:=e) (fun i hi=>by
    have hik:i<k:=by
     rw[da,<- wq]at hi;exact Nat.lt_of_mul_lt_mul_right hi
    have h1:=hf i hik;rw[yf (by omega)]at h1;exact L6 hg m e _ _ he (Fs ht hlw (List.mem_map_of_mem (yC _))) h1) gc k 0 (by rw[yy,da,wq])
   rw[Nat.zero_mul,Y05]at h1;exact⟨md,h1,by simp only[OP,ht];exact h2,(QI h1).trans da⟩
  ·cases h
def Eg (P:Program)(t:TypeId)(a:AV):Prop:=∃n,(OO P t=true/\∃cs,a=.agg cs/\OP P n t cs)\/(OO P t=false/\OP P n t [a])
def Xf (P:Program):List TypeId->List AV->Prop
 | [],xs=>xs=[]
 |t::ts,xs=>∃a r,xs=a::r/\Eg P t a/\Xf P ts r
theorem par_T {ts:List TypeId}(hg:ts.all (gS P ts)=true){t:TypeId}{r:Reach}{b0:Nat}{v:Value}{d:DataW H}{p:List MemPlace}(hs:ts.contains t=true)(hv:Value.okWide P w r b0 t v)(hlw:jO P t d)(h:DataW.Trod enc P w base spare held t v d p):
  ∃a,WD Ix.none Xo Xo w a v/\Eg P t a:=by
 obtain⟨fuel,hf⟩:=h;obtain⟨xs,h1,h2,_⟩:=L6 hg fuel t _ _ hs hlw hf;have one:∀(u:Value),v=u->v.cells.toList=[u]->OO P t=false->(∀a,OP P fuel t [a]->a.leaf=true)->∃a,WD Ix.none Xo Xo w a v/\Eg P t a:=fun u hu hc hw nv=>by
  rw[hc]at h1;have hl:=QI h1
  match xs,hl with
  | [a],_ =>
   simp only[eE]at h1;obtain⟨u',_,e,h0,_,_⟩:=h1;injection e with e;subst e;exact⟨a,by rw[hu];exact XX h0 (nv a h2),fuel,.inr ⟨hw,h2⟩⟩
 cases fuel with
 |zero=>exact h2.elim
 |succ k =>
  have hgt:gS P ts t=true:=ye.1 hg t (by simpa using hs);unfold gS at hgt;split at hgt
  ·rename_i ht;obtain ⟨b,rfl⟩:=okWide_bool ht hv;refine one _ rfl rfl (by simp [OO,ht]) fun a ha=>?_
   simp only[OP,ht]at ha;obtain⟨b',e⟩:=ha;injection e with e;subst e;rfl
  ·rename_i kk ht;obtain ⟨b,rfl⟩:=okWide_int ht hv;refine one _ rfl rfl (by simp [OO,ht]) fun a ha=>?_
   simp only[OP,ht]at ha;obtain⟨b',e,_⟩:=ha;injection e with e;subst e;rfl
  ·rename_i ht;obtain ⟨b,rfl⟩:=okWide_string ht hv;refine one _ rfl rfl (by simp [OO,ht]) fun a ha=>?_
   simp only[OP,ht]at ha;obtain⟨b',e,_⟩:=ha;injection e with e;subst e;rfl
  ·rename_i e' ht;obtain ⟨A,n,c,rfl⟩:=okWide_slice ht hv;refine one _ rfl rfl (by simp [OO,ht]) fun a ha=>?_
   simp only[OP,ht]at ha;obtain⟨nl,els,e,_⟩:=ha;injection e with e;subst e;rfl
  ·rename_i fs ht;have:∃cs,v=.agg cs:=by
    simp only[Value.okWide,ht]at hv;obtain⟨cs,hv,_⟩:=hv;exact⟨cs,hv⟩
   obtain⟨cs,rfl⟩:=this;exact⟨.agg xs,⟨cs,rfl,jG h1⟩,k+1,.inl ⟨by simp[OO,ht],xs,rfl,h2⟩⟩
  ·rename_i n' e' ht;have:∃cs,v=.agg cs:=by
    simp only[Value.okWide,ht]at hv;obtain⟨cs,hv,_⟩:=hv;exact⟨cs,hv⟩
   obtain⟨cs,rfl⟩:=this;exact⟨.agg xs,⟨cs,rfl,jG h1⟩,k+1,.inl ⟨by simp[OO,ht],xs,rfl,h2⟩⟩
  ·cases hgt
theorem Fg {T:List TypeId}(hg:T.all (gS P T)=true){r:Reach}{b0:Nat}:∀{ts:List TypeId}{vs:List Value}{ds:List (DataW H)}{p:List MemPlace},DataW.TrodAll enc P w base spare held ts vs ds p->(∀(j:Nat) t v,ts[j]?=some t->vs[j]?=some v->Value.okWide P w r b0 t v)->(∀m∈DataW.weightsEach P ts ds,m<=reachBytes)->ts.all (fun t=>T.contains t)=true →
  ∃xs,jJ Ix.none Xo Xo w xs vs/\Xf P ts xs
 | [],vs,ds,p,h,_,_,_=>by
  cases vs with
  |nil=>exact⟨[],rfl,rfl⟩
  |cons=>cases ds<;>exact h.elim
 |t::ts,vs,ds,p,h,hv,hw,hs=>by
  obtain⟨v,ly,d,ds',p',q',rfl,rfl,rfl,h0,h⟩:=trodAll_cons h;simp only[DataW.weightsEach,yu]at hw;simp only[List.all_cons,yg]at hs;obtain⟨a,h1,h2⟩:=par_T hg hs.1 (hv 0 t v rfl rfl) (fun m hm=>hw m (.inl hm)) h0;obtain⟨xs,h3,h4⟩:=Fg hg h (fun j t' v' e e'=>hv (j+1) t' v' (by simpa using e) (by simpa using e')) (fun m hm=>hw m (.inr hm)) hs.2;exact⟨a::xs,⟨v,ly,rfl,h1,h3⟩,a,xs,rfl,h2,h4⟩
end
end
section
open Go.ChangeShapes Go.WideShapes Go.ChangeAt Go.RowKit
theorem own:ownKnob Tryz.prog.godebug=none:=by kernel_rfl
theorem laidOut:laidOutB Tryz.prog=true:=by kernel_rfl
theorem A3 {H:Type}{enc:TypeId×Value->H}{P:Program}{f:Func}{s:ChangeSpec}{apart fresh zy:Bool}{W W':World}{args:Array Value}{v:Value}{ds gs:List (DataW H)}{before pa pv:List MemPlace}
  (hW:DataW.Whole enc P f.params.toList s.vars apart W args.toList ds gs before)
  (fg:∀(b:Nat)(sp:Nat->Bool)(hd:Bool),DataW.TrodAll enc P W' b sp hd f.resultTypes.toList (v.resultList f.resultTypes.size) (s.fn H (ds++gs)).results [])
  (za:DataW.TrodAll enc P W' 0 (fun b=>decide (b<W.heap.size)) true f.params.toList args.toList (s.fn H (ds++gs)).args pa)
  (hvars:DataW.TrodVars enc P W' (fun b=>decide (b<W.heap.size)) s.vars (s.fn H (ds++gs)).vars pv)
  (hb:Below W.heap.size W W'):s.post enc P f apart fresh zy false W args v W' :=
 ⟨ds,gs,before,[],pa,pv,hW,fg _ _ _,za,hvars,hb.frame _,fun h=>by cases h⟩
end
abbrev Jl (P:Program)(f:FuncId)(fn:Func)(s:ChangeSpec)(c:OpenClaim):Bool:=(c.wf (OpenSpec.ofChange s)&&laidOutB P&&mapsRowed P&&fn.params.all (P.readableRec ·)&&namedTie P c.named s.vars&&(c.stops ==[])&&(P.stops ==[])&&(c.knobs ==[])&&(P.stopKnobs ==[]))
abbrev Kl (P:Program)(f:FuncId)(fn:Func)(s:ChangeSpec)(c:OpenClaim):Bool:=((c.inPlace == P.inPlace f)&&(c.unfollowed == P.unfollowed f))
abbrev Ll (P:Program)(f:FuncId)(fn:Func)(s:ChangeSpec)(c:OpenClaim):Bool:=((c.recurses == P.recurses f)&&(c.named == P.varsNamed f))
abbrev Zl (P:Program)(f:FuncId)(fn:Func)(s:ChangeSpec)(c:OpenClaim):Bool:=((c.maps ==(fn.params.toList++s.plain.varTypes P).any (P.mapsRec ·))&&(c.ifaces ==(fn.params.toList++s.plain.varTypes P).any (P.ifacesRec ·))&&(c.mapsOut == P.mapsAmong fn.resultTypes.toList)&&(c.loops ==(fn.params.toList++s.plain.varTypes P).any (P.loopsFrom ·))&&(c.wideKeys ==(fn.params.toList++s.plain.varTypes P++fn.resultTypes.toList).any (P.wideKeysFrom ·))&&s.vars.all (P.varReadable ·)&&fn.resultTypes.all (fun t=>P.readableRec t&&decide (t<P.types.size))&&(c.ifacesOut == fn.resultTypes.toList.any (P.ifacesRec ·))&&(c.loopsOut == fn.resultTypes.toList.any (P.loopsFrom ·))&&(c.plainKeys == P.plainKeys)&&c.shortTexts.isNone&&P.stopsHeard)
abbrev Xl (P:Program)(f:FuncId)(fn:Func)(s:ChangeSpec)(c:OpenClaim):Bool:=P.mayEnter
abbrev Bl (P:Program)(f:FuncId)(fn:Func)(s:ChangeSpec)(c:OpenClaim):Bool:=(c.lifted == P.liftsFinal)
abbrev Nl (P:Program)(f:FuncId)(fn:Func)(s:ChangeSpec)(c:OpenClaim):Bool:=((P.make == some c.make)&&(c.kinds ==(if c.domain.isEmpty then []else fn.params.toList.map fun t=>match P.underlying t with|some (.int k)=>some k|_=>none))&&(c.pinned == c.pinnedBy)&&(c.veiled ==(fn.params.toList++s.plain.varTypes P++fn.resultTypes.toList).any (P.veiledRec ·))&&c.veiledFits P fn.params.toList (fn.params.toList++s.plain.varTypes P++fn.resultTypes.toList))
theorem Es {P:Program}{f:FuncId}{fn:Func}{s:ChangeSpec}{c:OpenClaim}(h1:Jl P f fn s c=true)(h2:Kl P f fn s c=true)(tg:Ll P f fn s c=true)(h3:Zl P f fn s c=true)(h4:Xl P f fn s c=true)(h5:Bl P f fn s c=true)(h6:Nl P f fn s c=true):joinedFacts P f fn s c=true:=by
 have e:joinedFacts P f fn s c=((c.wf (OpenSpec.ofChange s)&&laidOutB P&&mapsRowed P&&fn.params.all (P.readableRec ·)&&namedTie P c.named s.vars&&(c.stops ==[])&&(P.stops ==[])&&(c.knobs ==[])&&(P.stopKnobs ==[]))&&(((c.inPlace == P.inPlace f)&&(c.unfollowed == P.unfollowed f))&&(((c.recurses == P.recurses f)&&(c.named == P.varsNamed f))&&(((c.maps ==(fn.params.toList++s.plain.varTypes P).any (P.mapsRec ·))&&(c.ifaces ==(fn.params.toList++s.plain.varTypes P).any (P.ifacesRec ·))&&(c.mapsOut == P.mapsAmong fn.resultTypes.toList)&&(c.loops ==(fn.params.toList++s.plain.varTypes P).any (P.loopsFrom ·))&&(c.wideKeys ==(fn.params.toList++s.plain.varTypes P++fn.resultTypes.toList).any (P.wideKeysFrom ·))&&s.vars.all (P.varReadable ·)&&fn.resultTypes.all (fun t=>P.readableRec t&&decide (t<P.types.size))&&(c.ifacesOut == fn.resultTypes.toList.any (P.ifacesRec ·))&&(c.loopsOut == fn.resultTypes.toList.any (P.loopsFrom ·))&&(c.plainKeys == P.plainKeys)&&c.shortTexts.isNone&&P.stopsHeard)&&(P.mayEnter&&((c.lifted == P.liftsFinal)&&((P.make == some c.make)&&(c.kinds ==(if c.domain.isEmpty then []else fn.params.toList.map fun t=>match P.underlying t with|some (.int k)=>some k|_=>none))&&(c.pinned == c.pinnedBy)&&(c.veiled ==(fn.params.toList++s.plain.varTypes P++fn.resultTypes.toList).any (P.veiledRec ·))&&c.veiledFits P fn.params.toList (fn.params.toList++s.plain.varTypes P++fn.resultTypes.toList)))))))):=by
  simp only[joinedFacts,Bool.and_assoc];rfl
 dsimp only[Jl,Kl,Ll,Zl,Xl,Bl,Nl]at h1 h2 tg h3 h4 h5 h6;rw[e,h1,h2,tg,h3,h4,h5,h6];rfl
end Go.Proofs.YtpmklcpajcfpjaaGreatDoor
