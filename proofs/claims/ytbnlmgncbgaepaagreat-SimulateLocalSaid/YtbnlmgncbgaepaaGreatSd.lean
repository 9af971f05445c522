/- Part of the proof: the machine, the code of functions, and what it computes. -/
import Derived.Test.YtbnlmgncbgaepaaGreatSc
set_option linter.unusedSimpArgs false
set_option linter.unusedVariables false
set_option linter.unusedSectionVars false
set_option maxRecDepth 100000
set_option maxHeartbeats 8000000
open Option renaming bind_some → y0, bind_eq_some_iff → y9, map_eq_some_iff → yh
open List renaming range_succ → y3, map_map → y4, all_eq_true → y6, getElem?_eq_getElem → y7, getElem_mem → y8, drop_eq_getElem_cons → yc, getElem?_eq_some_iff → ye, getElem?_map → yf, drop_eq_nil_of_le → yg, mem_cons → yj, map_cons → yk, map_nil → yn, mem_of_getElem? → yo, map_congr_left → yq, length_append → yu, length_map → yx, mem_map → yz, mem_append → yA, getElem_of_mem → yC, length_take → yD, flatten_cons → yG, not_mem_nil → yJ, length_cons → yK, getElem?_append_left → yM, take_of_length_le → yO, getElem?_append_right → yQ, take_append_getElem → yR
open Int renaming toNat_lt → y5, tmod_eq_emod_of_nonneg → yw, emod_nonneg → yI, emod_lt_of_pos → yN
open Bool renaming and_eq_true → yb, false_eq_true → yr
open Nat renaming le_refl → ym, zero_add → yy, succ_mul → yB, eq_zero_or_pos → yE, le_trans → yH, lt_of_lt_of_le → yX
namespace Go.Proofs.YtbnlmgncbgaepaaGreat
open Go
noncomputable def q4Q:FnC:=cF [] Tryz.f229
theorem q7n:FnOk Tryz.prog 229 q4Q:=⟨fun xs w=>by kernel_rfl,_,Tryz.func229,by kernel_rfl⟩
noncomputable def q7i:FnC:=cF [] Tryz.f230
theorem q9O:FnOk Tryz.prog 230 q7i:=⟨fun xs w=>by kernel_rfl,_,Tryz.func230,by kernel_rfl⟩
noncomputable def q5I:FnC:=cF [] Tryz.f231
theorem q8e:FnOk Tryz.prog 231 q5I:=⟨fun xs w=>by kernel_rfl,_,Tryz.func231,by kernel_rfl⟩
noncomputable def q5H:FnC:=cF [] Tryz.f232
theorem q8c:FnOk Tryz.prog 232 q5H:=⟨fun xs w=>by kernel_rfl,_,Tryz.func232,by kernel_rfl⟩
noncomputable def q6x:FnC:=cF [] Tryz.f233
theorem q9g:FnOk Tryz.prog 233 q6x:=⟨fun xs w=>by kernel_rfl,_,Tryz.func233,by kernel_rfl⟩
def q22:C:=oR [oB 20 .lss 19 18] (.seq (.cond (.t 20) .skip (.exit 0)) (.seq (.block 1 (oR [oM 21 19,oM 3 21] (.seq (.reg [oM 22 0,oM 23 3,oS 24 (.index (.t 22) (.t 23)),oS 25 (.call .any 248 [(.t 24)]),oU 26 25,oM 27 26,oG 28 (.mv (.t 0)) 27 true,oG 29 (.mv (.t 3)) 27 true,oG 30 (.index (.t 28) (.t 29)) 27 true,oG 31 (.call .any 249 [(.t 30)]) 27 true,oG 32 (.un .not (.t 31)) 27 true,oS 33 (.pick (.t 27) (.t 32) (.c (.bool false)))]) (.cond (.t 33) (oR [oZ 2 false] .ret) .skip)))) (.reg [oC 34 .add 19 1,oM 19 34])))
def q2q:FnC:=⟨(oR [oZ 2 false] (.seq (.seq (.reg [oM 4 0,oS 5 (.bin .eql false (.t 4) (.c (.str (ByteArray.mk #[])))),oM 6 5,oG 7 (.mv (.t 0)) 6 false,oG 8 (.len true (.t 7)) 6 false,oG 9 (.bin .gtr false (.t 8) (.c (.int .i64 24))) 6 false,oS 10 (.pick (.t 6) (.c (.bool true)) (.t 9)),oM 11 10,oG 12 (.mv (.t 0)) 11 false,oG 13 (.index (.t 12) (.c (.int .i64 0))) 11 false,oG 14 (.call .any 248 [(.t 13)]) 11 false,oG 15 (.un .not (.t 14)) 11 false,oS 16 (.pick (.t 11) (.c (.bool true)) (.t 15))]) (.cond (.t 16) (oR [oZ 2 false] .ret) .skip)) (.seq (.seq (.reg [oM 17 0,oS 18 (.len true (.t 17)),oJ 19 0]) (.block 0 (.loop q22))) (oR [oZ 2 true] .ret)))),[(.tmp 2)],1,[]⟩
theorem ok_lexer_IsName:FnOk Tryz.prog 234 q2q:=⟨fun xs w=>by kernel_rfl,_,Tryz.func234,by kernel_rfl⟩
def q2L:C:=oR [oB 10 .lss 9 8] (.seq (.cond (.t 10) .skip (.exit 0)) (.seq (.block 1 (oR [oI 11 2 7 9,oA 12 2 11,oY 6 zzc,oV 2 6 12] (.reg [oM 13 3,oF 14 0 6,oL 15 14,oS 16 (.bsl [(.int .i64 0)] 1 [(0,(.t 15))]),oS 17 (.app .any 3 1 8 (.t 13) (.t 16)),oM 18 4,oF 19 1 6,oL 20 19,oS 21 (.bsl [(.str (ByteArray.mk #[]))] 1 [(0,(.t 20))]),oS 22 (.app .any 9 1 16 (.t 18) (.t 21)),oM 3 17,oM 4 22]))) (.reg [oC 23 .add 9 1,oM 9 23])))
def q3M:FnC:=⟨(oR [oZ 2 false] (.seq (.reg [oS 3 (.mv (.c (.sl true [])))]) (.seq (.reg [oS 4 (.mv (.c (.sl true [])))]) (.seq (oR [oM 7 0,oH 8 7,oJ 9 0] (.block 0 (.loop q2L))) (.seq (.reg [oM 24 0,oH 25 24,oC 26 .gtr 25 0,oM 27 26,oG 28 (.mv (.t 3)) 27 true,oG 29 (.mv (.t 4)) 27 true,oG 30 (.call .any 250 [(.t 28),(.t 29)]) 27 true,oS 31 (.pick (.t 27) (.t 30) (.c (.bool false))),oM 2 31]) .ret))))),[(.tmp 2)],1,[]⟩
theorem q9T:FnOk Tryz.prog 235 q3M:=⟨fun xs w=>by kernel_rfl,_,Tryz.func235,by kernel_rfl⟩
def q2K:C:=oR [oB 11 .lss 10 9] (.seq (.cond (.t 11) .skip (.exit 0)) (.seq (.block 1 (oR [oI 12 13 8 10,oA 13 13 12,oY 6 zzh,oV 13 6 13] (.seq (.reg [oM 14 3,oF 15 0 6,oL 16 15,oS 17 (.bsl [(.int .i64 0)] 1 [(0,(.t 16))]),oS 18 (.app .any 3 1 8 (.t 14) (.t 17)),oM 19 4,oF 20 1 6,oL 21 20,oS 22 (.bsl [(.str (ByteArray.mk #[]))] 1 [(0,(.t 21))]),oS 23 (.app .any 9 1 16 (.t 19) (.t 22)),oM 3 18,oM 4 23]) (.seq (.reg [oF 24 0 1,oL 25 24,oC 26 .eql 25 6,oM 27 26,oG 28 (.faddr 3 (.t 6)) 27 true,oP 29 28 27 true,oG 30 (.mv (.t 29)) 27 true,oG 31 (.faddr 4 (.t 6)) 30 false,oP 32 31 30 false,oG 33 (.pick (.t 30) (.c (.bool true)) (.t 32)) 27 true,oS 34 (.pick (.t 27) (.t 33) (.c (.bool false))),oM 35 34,oG 36 (.faddr 3 (.t 6)) 35 false,oP 37 36 35 false,oG 38 (.mv (.t 37)) 35 false,oG 39 (.faddr 4 (.t 6)) 38 true,oP 40 39 38 true,oG 41 (.pick (.t 38) (.t 40) (.c (.bool false))) 35 false,oS 42 (.pick (.t 35) (.c (.bool true)) (.t 41)),oM 43 42,oG 44 (.faddr 4 (.t 6)) 43 false,oP 45 44 43 false,oG 46 (.un .not (.t 45)) 43 false,oG 47 (.mv (.t 46)) 43 false,oG 48 (.faddr 5 (.t 6)) 47 true,oG 49 (.load .any true 8 (.t 48)) 47 true,oG 50 (.call .any 251 [(.t 49)]) 47 true,oG 51 (.un .not (.t 50)) 47 true,oG 52 (.pick (.t 47) (.t 51) (.c (.bool false))) 43 false,oS 53 (.pick (.t 43) (.c (.bool true)) (.t 52))]) (.cond (.t 53) (oR [oZ 2 false] .ret) .skip))))) (.reg [oC 54 .add 10 1,oM 10 54])))
def q3L:FnC:=⟨(oR [oQ 1 10 0,oZ 2 false] (.seq (.reg [oS 3 (.mv (.c (.sl true [])))]) (.seq (.reg [oS 4 (.mv (.c (.sl true [])))]) (.seq (oR [oF 7 6 1,oL 8 7,oH 9 8,oJ 10 0] (.block 0 (.loop q2K))) (.seq (.reg [oF 55 0 1,oL 56 55,oC 57 .eql 56 5,oM 58 57,oG 59 (.mv (.t 3)) 58 false,oG 60 (.len false (.t 59)) 58 false,oG 61 (.bin .gtr false (.t 60) (.c (.int .i64 0))) 58 false,oS 62 (.pick (.t 58) (.c (.bool true)) (.t 61)),oM 63 62,oG 64 (.mv (.t 3)) 63 true,oG 65 (.mv (.t 4)) 63 true,oG 66 (.call .any 250 [(.t 64),(.t 65)]) 63 true,oS 67 (.pick (.t 63) (.t 66) (.c (.bool false))),oM 2 67]) .ret))))),[(.tmp 2)],1,[]⟩
theorem q9S:FnOk Tryz.prog 236 q3L:=⟨fun xs w=>by kernel_rfl,_,Tryz.func236,by kernel_rfl⟩
def q0N:FnC:=⟨(oR [oQ 2 10 0,oQ 3 10 1,oZ 4 false] (.seq (.reg [oF 5 0 2,oL 6 5,oF 7 0 3,oL 8 7,oB 9 .eql 6 8,oM 10 9,oG 11 (.faddr 1 (.t 2)) 10 true,oP 12 11 10 true,oG 13 (.faddr 1 (.t 3)) 10 true,oP 14 13 10 true,oG 15 (.bin .eql false (.t 12) (.t 14)) 10 true,oS 16 (.pick (.t 10) (.t 15) (.c (.bool false))),oM 17 16,oG 18 (.faddr 2 (.t 2)) 17 true,oP 19 18 17 true,oG 20 (.faddr 2 (.t 3)) 17 true,oP 21 20 17 true,oG 22 (.bin .eql false (.t 19) (.t 21)) 17 true,oS 23 (.pick (.t 17) (.t 22) (.c (.bool false))),oM 24 23,oG 25 (.faddr 3 (.t 2)) 24 true,oP 26 25 24 true,oG 27 (.faddr 3 (.t 3)) 24 true,oP 28 27 24 true,oG 29 (.bin .eql false (.t 26) (.t 28)) 24 true,oS 30 (.pick (.t 24) (.t 29) (.c (.bool false))),oM 31 30,oG 32 (.faddr 4 (.t 2)) 31 true,oP 33 32 31 true,oG 34 (.faddr 4 (.t 3)) 31 true,oP 35 34 31 true,oG 36 (.bin .eql false (.t 33) (.t 35)) 31 true,oS 37 (.pick (.t 31) (.t 36) (.c (.bool false))),oM 38 37,oG 39 (.faddr 7 (.t 2)) 38 true,oP 40 39 38 true,oG 41 (.faddr 7 (.t 3)) 38 true,oP 42 41 38 true,oG 43 (.bin .eql false (.t 40) (.t 42)) 38 true,oS 44 (.pick (.t 38) (.t 43) (.c (.bool false))),oM 45 44,oG 46 (.faddr 8 (.t 2)) 45 true,oP 47 46 45 true,oG 48 (.faddr 8 (.t 3)) 45 true,oP 49 48 45 true,oG 50 (.bin .eql false (.t 47) (.t 49)) 45 true,oS 51 (.pick (.t 45) (.t 50) (.c (.bool false))),oM 52 51,oG 53 (.faddr 9 (.t 2)) 52 true,oP 54 53 52 true,oG 55 (.faddr 9 (.t 3)) 52 true,oP 56 55 52 true,oG 57 (.bin .eql true (.t 54) (.t 56)) 52 true,oS 58 (.pick (.t 52) (.t 57) (.c (.bool false))),oM 59 58,oG 60 (.faddr 5 (.t 2)) 59 true,oP 61 60 59 true,oG 62 (.faddr 5 (.t 3)) 59 true,oP 63 62 59 true,oG 64 (.call .any 252 [(.t 61),(.t 63)]) 59 true,oS 65 (.pick (.t 59) (.t 64) (.c (.bool false))),oM 66 65,oG 67 (.faddr 6 (.t 2)) 66 true,oP 68 67 66 true,oG 69 (.faddr 6 (.t 3)) 66 true,oP 70 69 66 true,oG 71 (.call .any 253 [(.t 68),(.t 70),(.c (.fn 254 []))]) 66 true,oS 72 (.pick (.t 66) (.t 71) (.c (.bool false))),oM 4 72]) .ret)),[(.tmp 4)],2,[]⟩
theorem ok_schema_equal:FnOk Tryz.prog 237 q0N:=⟨fun xs w=>by kernel_rfl,_,Tryz.func237,by kernel_rfl⟩
def q1c:FnC:=⟨(oR [oQ 1 8 0,oZ 2 false] (.seq (.reg [oA 4 8 1,oS 5 (.call .any 256 [(.t 4)]),oY 3 zza,oV 8 3 5]) (.seq (.reg [oF 6 1 1,oL 7 6,oF 8 1 3,oL 9 8,oS 10 (.bin .eql true (.t 7) (.t 9)),oM 11 10,oG 12 (.faddr 2 (.t 1)) 11 true,oP 13 12 11 true,oG 14 (.faddr 2 (.t 3)) 11 true,oP 15 14 11 true,oG 16 (.bin .eql false (.t 13) (.t 15)) 11 true,oS 17 (.pick (.t 11) (.t 16) (.c (.bool false))),oM 18 17,oG 19 (.faddr 3 (.t 1)) 18 true,oP 20 19 18 true,oG 21 (.faddr 3 (.t 3)) 18 true,oP 22 21 18 true,oG 23 (.bin .eql false (.t 20) (.t 22)) 18 true,oS 24 (.pick (.t 18) (.t 23) (.c (.bool false))),oM 25 24,oG 26 (.faddr 4 (.t 1)) 25 true,oP 27 26 25 true,oG 28 (.faddr 4 (.t 3)) 25 true,oP 29 28 25 true,oG 30 (.bin .eql false (.t 27) (.t 29)) 25 true,oS 31 (.pick (.t 25) (.t 30) (.c (.bool false))),oM 32 31,oG 33 (.faddr 5 (.t 1)) 32 true,oP 34 33 32 true,oG 35 (.len false (.t 34)) 32 true,oG 36 (.faddr 5 (.t 3)) 32 true,oP 37 36 32 true,oG 38 (.len false (.t 37)) 32 true,oG 39 (.bin .eql false (.t 35) (.t 38)) 32 true,oS 40 (.pick (.t 32) (.t 39) (.c (.bool false))),oM 41 40,oG 42 (.faddr 6 (.t 1)) 41 true,oP 43 42 41 true,oG 44 (.len false (.t 43)) 41 true,oG 45 (.faddr 6 (.t 3)) 41 true,oP 46 45 41 true,oG 47 (.len false (.t 46)) 41 true,oG 48 (.bin .eql false (.t 44) (.t 47)) 41 true,oS 49 (.pick (.t 41) (.t 48) (.c (.bool false))),oM 50 49,oG 51 (.faddr 7 (.t 1)) 50 true,oP 52 51 50 true,oG 53 (.len false (.t 52)) 50 true,oG 54 (.faddr 7 (.t 3)) 50 true,oP 55 54 50 true,oG 56 (.len false (.t 55)) 50 true,oG 57 (.bin .eql false (.t 53) (.t 56)) 50 true,oS 58 (.pick (.t 50) (.t 57) (.c (.bool false))),oM 2 58]) .ret))),[(.tmp 2)],1,[]⟩
theorem ok_value_proper:FnOk Tryz.prog 238 q1c:=⟨fun xs w=>by kernel_rfl,_,Tryz.func238,by kernel_rfl⟩
noncomputable def qad:FnC:=cF [] Tryz.f239
theorem ok_value_free:FnOk Tryz.prog 239 qad:=⟨fun xs w=>by kernel_rfl,_,Tryz.func239,by kernel_rfl⟩
def q6d:FnC:=⟨(oR [oQ 4 1 0,oQ 5 1 1,oQ 7 1 3,oZ 8 false] (.seq (.reg [oM 9 2,oS 10 (.mkf 258 [(.t 4),(.t 5),(.t 7)]),oS 11 (.call .any 257 [(.t 9),(.t 10)]),oU 12 11,oM 8 12]) .ret)),[(.tmp 8)],4,[]⟩
theorem ok_value_each:FnOk Tryz.prog 240 q6d:=⟨fun xs w=>by kernel_rfl,_,Tryz.func240,by kernel_rfl⟩
def q1b:FnC:=⟨(oR [oQ 2 8 0,oQ 3 8 1,oJ 4 0] (.seq (oR [oF 5 0 2,oL 6 5,oF 7 0 3,oL 8 7,oB 9 .neq 6 8] (.cond (.t 9) (oR [oJ 4 0] .ret) .skip)) (.seq (oR [oF 10 0 2,oL 11 10] (.block 0 (oR [oC 13 .eql 11 1,oM 12 13] (.cond (.t 12) (.seq (.block 1 (.seq (.reg [oF 15 1 2,oL 16 15,oF 17 1 3,oL 18 17,oS 19 (.bin .eql true (.t 16) (.t 18)),oM 14 19]) (.cond (.t 14) (oR [oJ 4 0] .ret) (oR [oF 21 1 3,oL 22 21,oM 20 22] (.cond (.t 20) (oR [oJ 4 (-1)] .ret) .skip))))) (oR [oJ 4 1] .ret)) (oR [oC 24 .eql 11 2,oM 23 24] (.cond (.t 23) (.seq (.reg [oF 25 2 2,oL 26 25,oS 27 (.call .any 260 [(.t 26)]),oF 28 2 3,oL 29 28,oS 30 (.call .any 260 [(.t 29)]),oS 31 (.call .any 259 [(.t 27),(.t 30)]),oM 4 31]) .ret) (oR [oC 33 .eql 11 3,oM 32 33] (.cond (.t 32) (.seq (.reg [oF 34 3 2,oL 35 34,oS 36 (.len true (.t 35)),oF 37 3 3,oL 38 37,oS 39 (.len true (.t 38)),oS 40 (.call .any 140 [(.t 36),(.t 39)]),oF 41 3 2,oL 42 41,oF 43 3 3,oL 44 43,oS 45 (.call .any 262 [(.t 42),(.t 44)]),oS 46 (.bsl [(.int .i64 0)] 2 [(0,(.t 40)),(1,(.t 45))]),oS 47 (.call .any 261 [(.t 46)]),oM 4 47]) .ret) (oR [oC 49 .eql 11 4,oM 48 49] (.cond (.t 48) (.seq (.reg [oF 50 4 2,oL 51 50,oF 52 4 3,oL 53 52,oS 54 (.call .any 140 [(.t 51),(.t 53)]),oM 4 54]) .ret) .skip)))))))))) (oR [oJ 4 0] .ret)))),[(.tmp 4)],2,[]⟩
theorem qaW:FnOk Tryz.prog 241 q1b:=⟨fun xs w=>by kernel_rfl,_,Tryz.func241,by kernel_rfl⟩
noncomputable def q3Z:FnC:=cF [] Tryz.f242
theorem q6q:FnOk Tryz.prog 242 q3Z:=⟨fun xs w=>by kernel_rfl,_,Tryz.func242,by kernel_rfl⟩
noncomputable def q4t:FnC:=cF [] Tryz.f243
theorem q76:FnOk Tryz.prog 243 q4t:=⟨fun xs w=>by kernel_rfl,_,Tryz.func243,by kernel_rfl⟩
noncomputable def q8h:FnC:=cF [] Tryz.f244
theorem ok_encode_Field:FnOk Tryz.prog 244 q8h:=⟨fun xs w=>by kernel_rfl,_,Tryz.func244,by kernel_rfl⟩
noncomputable def qaf:FnC:=cF [] Tryz.f245
theorem ok_varint_Put:FnOk Tryz.prog 245 qaf:=⟨fun xs w=>by kernel_rfl,_,Tryz.func245,by kernel_rfl⟩
noncomputable def q7A:FnC:=cF [] Tryz.f246
theorem qaH:FnOk Tryz.prog 246 q7A:=⟨fun xs w=>by kernel_rfl,_,Tryz.func246,by kernel_rfl⟩
noncomputable def q7y:FnC:=cF [49] Tryz.f247
theorem qaA:FnOk Tryz.prog 247 q7y:=⟨fun xs w=>by kernel_rfl,_,Tryz.func247,by kernel_rfl⟩
def q3H:FnC:=⟨(oR [oZ 2 false] (.seq (.reg [oM 3 0,oS 4 (.bin .eql false (.t 3) (.c (.int .u8 95))),oM 5 4,oG 6 (.mv (.t 0)) 5 false,oG 7 (.bin .geq false (.t 6) (.c (.int .u8 97))) 5 false,oG 8 (.mv (.t 7)) 5 false,oG 9 (.mv (.t 0)) 8 true,oG 10 (.bin .leq false (.t 9) (.c (.int .u8 122))) 8 true,oG 11 (.pick (.t 8) (.t 10) (.c (.bool false))) 5 false,oS 12 (.pick (.t 5) (.c (.bool true)) (.t 11)),oM 13 12,oG 14 (.mv (.t 0)) 13 false,oG 15 (.bin .geq false (.t 14) (.c (.int .u8 65))) 13 false,oG 16 (.mv (.t 15)) 13 false,oG 17 (.mv (.t 0)) 16 true,oG 18 (.bin .leq false (.t 17) (.c (.int .u8 90))) 16 true,oG 19 (.pick (.t 16) (.t 18) (.c (.bool false))) 13 false,oS 20 (.pick (.t 13) (.c (.bool true)) (.t 19)),oM 2 20]) .ret)),[(.tmp 2)],1,[]⟩
theorem q9N:FnOk Tryz.prog 248 q3H:=⟨fun xs w=>by kernel_rfl,_,Tryz.func248,by kernel_rfl⟩
def q45:FnC:=⟨(oR [oZ 2 false] (.seq (.reg [oM 3 0,oS 4 (.bin .geq false (.t 3) (.c (.int .u8 48))),oM 5 4,oG 6 (.mv (.t 0)) 5 true,oG 7 (.bin .leq false (.t 6) (.c (.int .u8 57))) 5 true,oS 8 (.pick (.t 5) (.t 7) (.c (.bool false))),oM 2 8]) .ret)),[(.tmp 2)],1,[]⟩
theorem qaE:FnOk Tryz.prog 249 q45:=⟨fun xs w=>by kernel_rfl,_,Tryz.func249,by kernel_rfl⟩
def q0G:C:=oR [oB 12 .lss 11 10] (.seq (.cond (.t 12) .skip (.exit 0)) (.seq (.block 1 (oR [oM 13 11,oI 14 1 9 11,oL 15 14,oM 6 13,oM 7 15] (.seq (.seq (.reg [oM 16 7,oC 17 .lss 16 1,oM 18 17,oG 19 (.mv (.t 7)) 18 false,oG 20 (.bin .gtr false (.t 19) (.c (.int .i64 1000))) 18 false,oS 21 (.pick (.t 18) (.c (.bool true)) (.t 20)),oM 22 21,oG 23 (.mv (.t 6)) 22 false,oG 24 (.bin .gtr false (.t 23) (.c (.int .i64 0))) 22 false,oG 25 (.mv (.t 24)) 22 false,oG 26 (.mv (.t 7)) 25 true,oG 27 (.mv (.t 0)) 25 true,oG 28 (.mv (.t 6)) 25 true,oG 29 (.bin .sub false (.t 28) (.c (.int .i64 1))) 25 true,oG 30 (.iaddr 1 (.t 27) (.t 29)) 25 true,oP 31 30 25 true,oG 32 (.bin .leq false (.t 26) (.t 31)) 25 true,oG 33 (.pick (.t 25) (.t 32) (.c (.bool false))) 22 false,oS 34 (.pick (.t 22) (.c (.bool true)) (.t 33)),oM 35 34,oG 36 (.mv (.t 5)) 35 false,oG 37 (.mv (.t 1)) 35 false,oG 38 (.mv (.t 6)) 35 false,oG 39 (.iaddr 1 (.t 37) (.t 38)) 35 false,oP 40 39 35 false,oG 41 (.mget false .none (.bool false) (.t 36) (.t 40)) 35 false,oS 42 (.pick (.t 35) (.c (.bool true)) (.t 41)),oM 43 42,oG 44 (.mv (.t 1)) 43 false,oG 45 (.mv (.t 6)) 43 false,oG 46 (.iaddr 1 (.t 44) (.t 45)) 43 false,oP 47 46 43 false,oG 48 (.call .any 234 [(.t 47)]) 43 false,oG 49 (.un .not (.t 48)) 43 false,oS 50 (.pick (.t 43) (.c (.bool true)) (.t 49))]) (.cond (.t 50) (oR [oZ 4 false] .ret) .skip)) (.reg [oM 51 5,oM 52 1,oM 53 6,oI 54 1 52 53,oL 55 54,oN (.mset .none (.t 51) (.t 55) (.c (.bool true)))])))) (.reg [oC 56 .add 11 1,oM 11 56])))
def q6b:FnC:=⟨(oR [oZ 4 false] (.seq (.reg [oS 8 (.mkm),oM 5 8]) (.seq (oR [oM 9 0,oH 10 9,oJ 11 0] (.block 0 (.loop q0G))) (oR [oM 57 0,oH 58 57,oC 59 .leq 58 16,oM 4 59] .ret)))),[(.tmp 4)],2,[]⟩
theorem ok_schema_ids:FnOk Tryz.prog 250 q6b:=⟨fun xs w=>by kernel_rfl,_,Tryz.func250,by kernel_rfl⟩
def q4N:FnC:=⟨(oR [oQ 1 8 0,oZ 2 false] (.seq (.reg [oA 3 8 1,oS 4 (.build zza []),oS 5 (.call .any 255 [(.t 3),(.t 4)]),oM 2 5]) .ret)),[(.tmp 2)],1,[]⟩
theorem ok_schema_blank:FnOk Tryz.prog 251 q4N:=⟨fun xs w=>by kernel_rfl,_,Tryz.func251,by kernel_rfl⟩
def q0A:C:=oR [oB 14 .lss 13 12] (.seq (.cond (.t 14) .skip (.exit 0)) (.seq (.block 1 (oR [oM 15 13,oM 5 15] (.seq (.reg [oM 16 0,oM 17 5,oI 18 2 16 17,oA 19 2 18,oM 20 1,oM 21 5,oI 22 2 20 21,oA 23 2 22,oS 24 (.eqa true [0,1] (.t 19) (.t 23))]) (.cond (.t 24) (oR [oZ 4 false] .ret) .skip)))) (.reg [oC 25 .add 13 1,oM 13 25])))
def q1a:FnC:=⟨(oR [oZ 4 false] (.seq (oR [oM 6 0,oH 7 6,oM 8 1,oH 9 8,oB 10 .neq 7 9] (.cond (.t 10) (oR [oZ 4 false] .ret) .skip)) (.seq (oR [oM 11 0,oH 12 11,oJ 13 0] (.block 0 (.loop q0A))) (oR [oZ 4 true] .ret)))),[(.tmp 4)],2,[]⟩
theorem q61:FnOk Tryz.prog 252 q1a:=⟨fun xs w=>by kernel_rfl,_,Tryz.func252,by kernel_rfl⟩
def q0D:C:=oR [oB 18 .lss 17 16] (.seq (.cond (.t 18) .skip (.exit 0)) (.seq (.block 1 (oR [oM 19 17,oI 20 13 15 17,oA 21 13 20,oY 8 zzh,oM 7 19,oV 13 8 21] (oR [oM 22 1,oM 23 7,oI 24 13 22 23,oA 25 13 24,oY 9 zzh,oV 13 9 25] (.seq (.reg [oM 26 2,oA 27 13 8,oA 28 13 9,oS 29 (.callv .any (.t 26) [(.t 27),(.t 28)]),oU 30 29]) (.cond (.t 30) (oR [oZ 6 false] .ret) .skip))))) (.reg [oC 31 .add 17 1,oM 17 31])))
def q0J:FnC:=⟨(oR [oZ 6 false] (.seq (oR [oM 10 0,oH 11 10,oM 12 1,oH 13 12,oB 14 .neq 11 13] (.cond (.t 14) (oR [oZ 6 false] .ret) .skip)) (.seq (oR [oM 15 0,oH 16 15,oJ 17 0] (.block 0 (.loop q0D))) (oR [oZ 6 true] .ret)))),[(.tmp 6)],3,[]⟩
theorem q4Y:FnOk Tryz.prog 253 q0J:=⟨fun xs w=>by kernel_rfl,_,Tryz.func253,by kernel_rfl⟩
def q13:FnC:=⟨(oR [oQ 2 13 0,oQ 3 13 1,oZ 4 false] (.seq (.reg [oF 5 0 2,oL 6 5,oF 7 0 3,oL 8 7,oB 9 .eql 6 8,oM 10 9,oG 11 (.faddr 1 (.t 2)) 10 true,oP 12 11 10 true,oG 13 (.faddr 1 (.t 3)) 10 true,oP 14 13 10 true,oG 15 (.bin .eql false (.t 12) (.t 14)) 10 true,oS 16 (.pick (.t 10) (.t 15) (.c (.bool false))),oM 17 16,oG 18 (.faddr 2 (.t 2)) 17 true,oP 19 18 17 true,oG 20 (.faddr 2 (.t 3)) 17 true,oP 21 20 17 true,oG 22 (.bin .eql false (.t 19) (.t 21)) 17 true,oS 23 (.pick (.t 17) (.t 22) (.c (.bool false))),oM 24 23,oG 25 (.faddr 3 (.t 2)) 24 true,oP 26 25 24 true,oG 27 (.faddr 3 (.t 3)) 24 true,oP 28 27 24 true,oG 29 (.bin .eql true (.t 26) (.t 28)) 24 true,oS 30 (.pick (.t 24) (.t 29) (.c (.bool false))),oM 31 30,oG 32 (.faddr 4 (.t 2)) 31 true,oP 33 32 31 true,oG 34 (.faddr 4 (.t 3)) 31 true,oP 35 34 31 true,oG 36 (.bin .eql true (.t 33) (.t 35)) 31 true,oS 37 (.pick (.t 31) (.t 36) (.c (.bool false))),oM 38 37,oG 39 (.faddr 5 (.t 2)) 38 true,oG 40 (.load .any true 8 (.t 39)) 38 true,oG 41 (.faddr 5 (.t 3)) 38 true,oG 42 (.load .any true 8 (.t 41)) 38 true,oG 43 (.call .any 255 [(.t 40),(.t 42)]) 38 true,oS 44 (.pick (.t 38) (.t 43) (.c (.bool false))),oM 4 44]) .ret)),[(.tmp 4)],2,[]⟩
theorem q9j:FnOk Tryz.prog 254 q13:=⟨fun xs w=>by kernel_rfl,_,Tryz.func254,by kernel_rfl⟩
def q1o:FnC:=⟨(oR [oQ 2 8 0,oQ 3 8 1,oZ 4 false] (.seq (.reg [oF 5 0 2,oL 6 5,oF 7 0 3,oL 8 7,oB 9 .eql 6 8,oM 10 9,oG 11 (.faddr 1 (.t 2)) 10 true,oP 12 11 10 true,oG 13 (.faddr 1 (.t 3)) 10 true,oP 14 13 10 true,oG 15 (.bin .eql true (.t 12) (.t 14)) 10 true,oS 16 (.pick (.t 10) (.t 15) (.c (.bool false))),oM 17 16,oG 18 (.faddr 2 (.t 2)) 17 true,oP 19 18 17 true,oG 20 (.faddr 2 (.t 3)) 17 true,oP 21 20 17 true,oG 22 (.bin .eql false (.t 19) (.t 21)) 17 true,oS 23 (.pick (.t 17) (.t 22) (.c (.bool false))),oM 24 23,oG 25 (.faddr 3 (.t 2)) 24 true,oP 26 25 24 true,oG 27 (.faddr 3 (.t 3)) 24 true,oP 28 27 24 true,oG 29 (.bin .eql false (.t 26) (.t 28)) 24 true,oS 30 (.pick (.t 24) (.t 29) (.c (.bool false))),oM 31 30,oG 32 (.faddr 4 (.t 2)) 31 true,oP 33 32 31 true,oG 34 (.faddr 4 (.t 3)) 31 true,oP 35 34 31 true,oG 36 (.bin .eql false (.t 33) (.t 35)) 31 true,oS 37 (.pick (.t 31) (.t 36) (.c (.bool false))),oM 38 37,oG 39 (.faddr 7 (.t 2)) 38 true,oP 40 39 38 true,oG 41 (.faddr 7 (.t 3)) 38 true,oP 42 41 38 true,oG 43 (.call .any 196 [(.t 40),(.t 42)]) 38 true,oS 44 (.pick (.t 38) (.t 43) (.c (.bool false))),oM 45 44,oG 46 (.faddr 5 (.t 2)) 45 true,oP 47 46 45 true,oG 48 (.faddr 5 (.t 3)) 45 true,oP 49 48 45 true,oG 50 (.call .any 197 [(.t 47),(.t 49),(.c (.fn 255 []))]) 45 true,oS 51 (.pick (.t 45) (.t 50) (.c (.bool false))),oM 52 51,oG 53 (.faddr 6 (.t 2)) 52 true,oP 54 53 52 true,oG 55 (.faddr 6 (.t 3)) 52 true,oP 56 55 52 true,oG 57 (.call .any 197 [(.t 54),(.t 56),(.c (.fn 255 []))]) 52 true,oS 58 (.pick (.t 52) (.t 57) (.c (.bool false))),oM 4 58]) .ret)),[(.tmp 4)],2,[]⟩
theorem ok_schema_same:FnOk Tryz.prog 255 q1o:=⟨fun xs w=>by kernel_rfl,_,Tryz.func255,by kernel_rfl⟩
def q0w:FnC:=⟨(oR [oQ 1 8 0,oY 2 zza] (.seq (.reg [oF 4 0 1,oL 5 4,oS 6 (.build zza [(0,(1,(.t 5)))]),oY 3 zza,oV 8 3 6]) (.seq (oR [oF 7 0 1,oL 8 7] (.block 0 (oR [oC 10 .eql 8 1,oM 9 10] (.cond (.t 9) (.reg [oF 11 1 1,oL 12 11,oF 13 1 3,oW 13 12]) (oR [oC 15 .eql 8 2,oM 14 15] (.cond (.t 14) (.reg [oF 16 2 1,oL 17 16,oF 18 2 3,oW 18 17]) (oR [oC 20 .eql 8 3,oM 19 20] (.cond (.t 19) (.reg [oF 21 3 1,oL 22 21,oF 23 3 3,oW 23 22]) (oR [oC 25 .eql 8 4,oM 24 25] (.cond (.t 24) (.reg [oF 26 4 1,oL 27 26,oF 28 4 3,oW 28 27]) (oR [oC 30 .eql 8 5,oM 29 30] (.cond (.t 29) (.reg [oF 31 6 1,oS 32 (.load (.root 1) false 1 (.t 31)),oF 33 7 1,oS 34 (.load (.root 1) false 1 (.t 33)),oF 35 6 3,oN (.store (.root 3) false 1 (.t 35) (.t 32)),oF 36 7 3,oN (.store (.root 3) false 1 (.t 36) (.t 34))]) (oR [oC 38 .eql 8 6,oM 37 38] (.cond (.t 37) (.reg [oF 39 4 1,oS 40 (.load (.root 1) false 1 (.t 39)),oF 41 6 1,oS 42 (.load (.root 1) false 1 (.t 41)),oF 43 7 1,oS 44 (.load (.root 1) false 1 (.t 43)),oF 45 4 3,oN (.store (.root 3) false 1 (.t 45) (.t 40)),oF 46 6 3,oN (.store (.root 3) false 1 (.t 46) (.t 42)),oF 47 7 3,oN (.store (.root 3) false 1 (.t 47) (.t 44))]) (oR [oC 49 .eql 8 8,oM 48 49] (.cond (.t 48) (.reg [oF 50 5 1,oS 51 (.load (.root 1) false 1 (.t 50)),oF 52 6 1,oS 53 (.load (.root 1) false 1 (.t 52)),oF 54 5 3,oN (.store (.root 3) false 1 (.t 54) (.t 51)),oF 55 6 3,oN (.store (.root 3) false 1 (.t 55) (.t 53))]) (.seq (oR [oC 57 .eql 8 7,oM 56 57] (.cond (.t 56) .skip (.reg [oC 58 .eql 8 9,oM 56 58]))) (.cond (.t 56) (.reg [oF 59 6 1,oL 60 59,oF 61 6 3,oW 61 60]) .skip)))))))))))))))))) (oR [oA 62 8 3,oV 8 2 62] .ret)))),[(.cell 2 true 8)],1,[]⟩
theorem ok_value_bare:FnOk Tryz.prog 256 q0w:=⟨fun xs w=>by kernel_rfl,_,Tryz.func256,by kernel_rfl⟩
def q14:FnC:=⟨(oR [oZ 4 false] (.seq (.reg [oM 5 0,oM 6 1,oS 7 (.call .any 266 [(.t 5),(.t 6)]),oC 8 .geq 7 0,oM 4 8]) .ret)),[(.tmp 4)],2,[]⟩
theorem q4r:FnOk Tryz.prog 257 q14:=⟨fun xs w=>by kernel_rfl,_,Tryz.func257,by kernel_rfl⟩
def q4o:FnC:=⟨(oR [oQ 4 8 0,oZ 5 false] (.seq (.reg [oA 6 1 1,oL 7 2,oA 8 8 4,oL 9 3,oS 10 (.call .any 227 [(.t 6),(.t 7),(.t 8),(.t 9)]),oU 11 10,oM 5 11]) .ret)),[(.tmp 5)],4,[]⟩
theorem qaX:FnOk Tryz.prog 258 q4o:=⟨fun xs w=>by kernel_rfl,_,Tryz.func258,by kernel_rfl⟩
def q1V:FnC:=⟨(oR [oJ 4 0] (.seq (.reg [oM 7 0,oS 8 (.call .any 267 [(.t 7)]),oM 5 8]) (.seq (.reg [oM 9 1,oS 10 (.call .any 267 [(.t 9)]),oM 6 10]) (.seq (oR [oM 11 5] (.cond (.t 11) (.seq (oR [oM 12 6] (.cond (.t 12) (oR [oJ 4 0] .ret) .skip)) (oR [oJ 4 (-1)] .ret)) .skip)) (.seq (oR [oM 13 6] (.cond (.t 13) (oR [oJ 4 1] .ret) .skip)) (.seq (oR [oM 14 0,oM 15 1,oB 16 .lss 14 15] (.cond (.t 16) (oR [oJ 4 (-1)] .ret) .skip)) (.seq (oR [oM 17 0,oM 18 1,oB 19 .gtr 17 18] (.cond (.t 19) (oR [oJ 4 1] .ret) .skip)) (oR [oJ 4 0] .ret)))))))),[(.tmp 4)],2,[]⟩
theorem q7S:FnOk Tryz.prog 259 q1V:=⟨fun xs w=>by kernel_rfl,_,Tryz.func259,by kernel_rfl⟩
def q3g:FnC:=⟨(.seq (.reg [oS 2 (.mv (.c (.int .u64 0)))]) (.seq (.reg [oM 3 0,oS 4 (.conv (.some .u64) (.t 3)),oS 5 (.bin .shl false (.t 4) (.c (.int .u64 1))),oM 6 0,oS 7 (.bin .shr false (.t 6) (.c (.int .u64 63))),oS 8 (.conv (.some .u64) (.t 7)),oB 9 .xor 5 8,oM 2 9]) .ret)),[(.tmp 2)],1,[]⟩
theorem qaY:FnOk Tryz.prog 260 q3g:=⟨fun xs w=>by kernel_rfl,_,Tryz.func260,by kernel_rfl⟩
def q2y:C:=oR [oB 9 .lss 8 7] (.seq (.cond (.t 9) .skip (.exit 0)) (.seq (.block 1 (oR [oI 10 1 6 8,oL 11 10,oM 5 11] (oR [oM 12 5,oM 13 3,oB 14 .neq 12 13] (.cond (.t 14) (oR [oM 15 5,oM 2 15] .ret) .skip)))) (.reg [oC 16 .add 8 1,oM 8 16])))
def q64:FnC:=⟨(oR [oJ 2 0] (oR [oJ 3 0] (.seq (oR [oM 6 0,oH 7 6,oJ 8 0] (.block 0 (.loop q2y))) (oR [oM 17 3,oM 2 17] .ret)))),[(.tmp 2)],1,[]⟩
theorem ok_cmp_Or_int:FnOk Tryz.prog 261 q64:=⟨fun xs w=>by kernel_rfl,_,Tryz.func261,by kernel_rfl⟩
def q1u:FnC:=⟨(oR [oJ 4 0] (.seq (.reg [oM 7 0,oS 8 (.call .any 268 [(.t 7)]),oM 5 8]) (.seq (.reg [oM 9 1,oS 10 (.call .any 268 [(.t 9)]),oM 6 10]) (.seq (oR [oM 11 5] (.cond (.t 11) (.seq (oR [oM 12 6] (.cond (.t 12) (oR [oJ 4 0] .ret) .skip)) (oR [oJ 4 (-1)] .ret)) .skip)) (.seq (oR [oM 13 6] (.cond (.t 13) (oR [oJ 4 1] .ret) .skip)) (.seq (oR [oM 14 0,oM 15 1,oB 16 .lss 14 15] (.cond (.t 16) (oR [oJ 4 (-1)] .ret) .skip)) (.seq (oR [oM 17 0,oM 18 1,oB 19 .gtr 17 18] (.cond (.t 19) (oR [oJ 4 1] .ret) .skip)) (oR [oJ 4 0] .ret)))))))),[(.tmp 4)],2,[]⟩
theorem q7R:FnOk Tryz.prog 262 q1u:=⟨fun xs w=>by kernel_rfl,_,Tryz.func262,by kernel_rfl⟩
noncomputable def q8i:FnC:=cF [] Tryz.f263
theorem ok_encode_field:FnOk Tryz.prog 263 q8i:=⟨fun xs w=>by kernel_rfl,_,Tryz.func263,by kernel_rfl⟩
noncomputable def q7f:FnC:=cF [] Tryz.f264
theorem q9I:FnOk Tryz.prog 264 q7f:=⟨fun xs w=>by kernel_rfl,_,Tryz.func264,by kernel_rfl⟩
noncomputable def q42:FnC:=cF [3000000,20,117,131,163,209,227] Tryz.f265
theorem q6K:FnOk Tryz.prog 265 q42:=⟨fun xs w=>by kernel_rfl,_,Tryz.func265,by kernel_rfl⟩
def q15:C:=oR [oB 9 .lss 8 7] (.seq (.cond (.t 9) .skip (.exit 0)) (.seq (.block 1 (oR [oM 10 8,oM 5 10] (.seq (.reg [oM 11 1,oM 12 0,oM 13 5,oI 14 8 12 13,oA 15 8 14,oS 16 (.callv .any (.t 11) [(.t 15)])]) (.cond (.t 16) (oR [oM 17 5,oM 4 17] .ret) .skip)))) (.reg [oC 18 .add 8 1,oM 8 18])))
def q1n:FnC:=⟨(oR [oJ 4 0] (.seq (oR [oM 6 0,oH 7 6,oJ 8 0] (.block 0 (.loop q15))) (oR [oJ 4 (-1)] .ret))),[(.tmp 4)],2,[]⟩
theorem q5b:FnOk Tryz.prog 266 q1n:=⟨fun xs w=>by kernel_rfl,_,Tryz.func266,by kernel_rfl⟩
def q31:FnC:=⟨(oR [oZ 2 false] (oR [oM 3 0,oM 4 0,oB 5 .neq 3 4,oM 2 5] .ret)),[(.tmp 2)],1,[]⟩
theorem q8y:FnOk Tryz.prog 267 q31:=⟨fun xs w=>by kernel_rfl,_,Tryz.func267,by kernel_rfl⟩
def q30:FnC:=⟨(oR [oZ 2 false] (oR [oM 3 0,oM 4 0,oB 5 .neq 3 4,oM 2 5] .ret)),[(.tmp 2)],1,[]⟩
theorem q8x:FnOk Tryz.prog 268 q30:=⟨fun xs w=>by kernel_rfl,_,Tryz.func268,by kernel_rfl⟩
noncomputable def q8j:FnC:=cF [] Tryz.f269
theorem ok_encode_sized:FnOk Tryz.prog 269 q8j:=⟨fun xs w=>by kernel_rfl,_,Tryz.func269,by kernel_rfl⟩
noncomputable def q7g:FnC:=cF [] Tryz.f270
theorem q9J:FnOk Tryz.prog 270 q7g:=⟨fun xs w=>by kernel_rfl,_,Tryz.func270,by kernel_rfl⟩
noncomputable def qac:FnC:=cF [] Tryz.f271
theorem ok_value_Fits:FnOk Tryz.prog 271 qac:=⟨fun xs w=>by kernel_rfl,_,Tryz.func271,by kernel_rfl⟩
noncomputable def qae:FnC:=cF [] Tryz.f272
theorem ok_varint_Big:FnOk Tryz.prog 272 qae:=⟨fun xs w=>by kernel_rfl,_,Tryz.func272,by kernel_rfl⟩
noncomputable def q4s:FnC:=cF [3000000,28,109,147,101,1000000 + 278] Tryz.f273
theorem q75:FnOk Tryz.prog 273 q4s:=⟨fun xs w=>by kernel_rfl,_,Tryz.func273,by kernel_rfl⟩
noncomputable def q4P:FnC:=cF [3000000,93] Tryz.f274
theorem q7l:FnOk Tryz.prog 274 q4P:=⟨fun xs w=>by kernel_rfl,_,Tryz.func274,by kernel_rfl⟩
noncomputable def q7h:FnC:=cF [] Tryz.f277
theorem q9K:FnOk Tryz.prog 277 q7h:=⟨fun xs w=>by kernel_rfl,_,Tryz.func277,by kernel_rfl⟩
noncomputable def q2G:FnC:=cF [1000000 + 281] Tryz.f278
theorem q4z:FnOk Tryz.prog 278 q2G:=⟨fun xs w=>by kernel_rfl,_,Tryz.func278,by kernel_rfl⟩
noncomputable def q3z:FnC:=cF [] Tryz.f279
theorem q60:FnOk Tryz.prog 279 q3z:=⟨fun xs w=>by kernel_rfl,_,Tryz.func279,by kernel_rfl⟩
noncomputable def q1Z:FnC:=cF [1000000 + 283] Tryz.f281
theorem q3x:FnOk Tryz.prog 281 q1Z:=⟨fun xs w=>by kernel_rfl,_,Tryz.func281,by kernel_rfl⟩
noncomputable def q1x:FnC:=cF [] Tryz.f283
theorem q2N:FnOk Tryz.prog 283 q1x:=⟨fun xs w=>by kernel_rfl,_,Tryz.func283,by kernel_rfl⟩
section
def Det {α:Type} (f:(α->MSt->Option RV)->Option RV):Prop:=(∀ k,f k=none)\/∃ e s',∀ k,f k=k e s'
def Det1 (f:(MSt->Option RV)->Option RV):Prop:=(∀ k,f k=none)\/∃ s',∀ k,f k=k s'
theorem Det.bind {α β:Type} {f:(α->MSt->Option RV)->Option RV} (h:Det f) {g:(β->MSt->Option RV)->α->MSt->Option RV} (hg:∀ e s,Det fun k=>g k e s):Det fun k=>f (g k):=by
 rcases h with h | ⟨e,s,h⟩
 ·exact .inl fun k=>h _
 ·rcases hg e s with h2 | ⟨e',s',h2⟩
  ·exact .inl fun k=>(h _).trans (h2 k)
  ·exact .inr ⟨e',s',fun k=>(h _).trans (h2 k)⟩
theorem Det.here {α:Type} (e:α) (s:MSt):Det fun (k:α->MSt->Option RV)=>k e s:=.inr ⟨e,s,fun _=>rfl⟩
theorem Det.no {α:Type}:Det fun (_:α->MSt->Option RV)=>none:=.inl fun _=>rfl
def C.det:C->Bool
 | .seq a b=>a.det&&b.det
 | .reg ops=>ops.all fun o=>match o.op with | .nxt _=>false | _=>true
 | .cond _ a b=>a.det&&b.det
 | .block _ b=>b.det
 | .loop b=>b.det
 | _=>true
section
variable {call:q1z} {lh:LH}
theorem det_hguard (s:MSt) (d:Option Nat) (g:Option (Nat × Bool)) {a:(MSt->Option RV)->Option RV} (ha:Det1 a):Det1 fun k=>q6C s d g (a k) k:=by
 unfold q6C;cases g with
 | none=>exact ha
 | some p =>
  obtain ⟨t,want⟩:=p;simp only;split
  ·split
   ·exact ha
   ·exact .inr ⟨_,fun _=>rfl⟩
  ·exact .inr ⟨_,fun _=>rfl⟩
  ·exact .inl fun _=>rfl
theorem det_hstep (hh:∀ f xs s,Det (lh.h f xs s)) (d:Option Nat) (nt:Nat) (x:Opd) (xs:List Opd) (s:MSt):Det1 (qay lh d nt x xs s):=by
 unfold qay;split
 ·rcases hh _ (q8T s xs++_) (s.enter nt) with h | ⟨y,s',h⟩
  ·exact .inl fun k=>h _
  ·exact .inr ⟨_,fun k=>h _⟩
 ·exact .inl fun _=>rfl
theorem det_stepK (hh:∀ f xs s,Det (lh.h f xs s)) (o:OpC) (ho:(match o.op with | .nxt _=>false | _=>true)=true) (s:MSt):Det1 (o.stepK call lh s):=by
 have hp:∀ (a:Option MSt),Det1 fun k=>a.bind k:=fun a=>by
  cases a with
  | none=>exact .inl fun _=>rfl
  | some s'=>exact .inr ⟨s',fun _=>rfl⟩
 unfold OpC.stepK;split
 ·exact det_hguard s _ _ (det_hstep hh _ _ _ _ s)
 ·rename_i h;rw [h] at ho;cases ho
 ·exact hp _
theorem det_ops (hh:∀ f xs s,Det (lh.h f xs s)):∀ (l:List OpC) (hl:(l.all fun o=>match o.op with | .nxt _=>false | _=>true)=true) (s:MSt),Det1 (q4u call lh l s)
 | [],_,s=>.inr ⟨s,fun _=>rfl⟩
 | o :: r,hl,s=>by
  rw [List.all_cons,yb] at hl;rcases det_stepK (call:=call) hh o hl.1 s with h | ⟨s',h⟩
  ·exact .inl fun k=>h _
  ·rcases det_ops hh r hl.2 s' with h2 | ⟨s2,h2⟩
   ·exact .inl fun k=>(h _).trans (h2 k)
   ·exact .inr ⟨s2,fun k=>(h _).trans (h2 k)⟩
theorem q8u (hl:∀ b,b.det=true->∀ s,Det (lh b s)) (hh:∀ f xs s,Det (lh.h f xs s)):∀ (c:C) (hc:c.det=true) (s:MSt),Det (c.run call lh s)
 | .skip,_,s=>.inr ⟨.nrm,s,fun _=>rfl⟩
 | .exit id,_,s=>.inr ⟨.exit id,s,fun _=>rfl⟩
 | .ret,_,s=>.inr ⟨.ret,s,fun _=>rfl⟩
 | .seq a b,hc,s=>by
  simp only [C.det,yb] at hc;refine (q8u hl hh a hc.1 s).bind (g:=fun k e s=>match e with | .nrm=>b.run call lh s k | e=>k e s) fun e s=>?_
  cases e with
  | nrm=>exact q8u hl hh b hc.2 s
  | exit id=>exact Det.here _ _
  | ret=>exact Det.here _ _
 | .reg ops,hc,s=>by
  rcases det_ops (call:=call) hh ops hc s with h | ⟨s',h⟩
  ·exact .inl fun k=>h _
  ·exact .inr ⟨_,_,fun k=>h _⟩
 | .cond c t e,hc,s=>by
  simp only [C.det,yb] at hc;simp only [C.run];split
  ·split
   ·exact q8u hl hh t hc.1 s
   ·exact q8u hl hh e hc.2 s
  ·exact Det.no
 | .block id b,hc,s=>(q8u hl hh b hc s).bind (g:=fun k e s=>match e with | .exit j=>if j=id then k .nrm s else k (.exit j) s | e=>k e s) fun e s=>by
  cases e with
  | nrm=>exact Det.here _ _
  | ret=>exact Det.here _ _
  | exit j =>
   simp only;split
   ·exact Det.here _ _
   ·exact Det.here _ _
 | .loop b,hc,s=>hl b hc s
end
section
variable {T:Nat->Option FnC} {ext:q1z}
theorem det_N (hD:∀ f c,T f=some c->c.code.det=true):∀ n,(∀ b,b.det=true->∀ s,Det (lpN T ext n b s))/\∀ f xs s,Det (hpN T ext n f xs s)
 | 0=>⟨fun _ _ _=>.inl fun _=>rfl,fun _ _ _=>.inl fun _=>rfl⟩
 | n + 1=>by
  obtain ⟨h1,h2⟩:=det_N hD n;have hr:=q8u (call:=q3s T ext n) (lh:=⟨lpN T ext n,hpN T ext n⟩) h1 h2;refine ⟨fun b hb s=>?_,fun f xs s=>?_⟩
  ·have:lpN T ext (n + 1) b s=fun k=>b.run (q3s T ext n) ⟨lpN T ext n,hpN T ext n⟩ s (q8r (lpN T ext n) b k):=by funext k; rw [lpN]
   rw [this];refine (hr b hb s).bind (g:=fun k=>q8r (lpN T ext n) b k) fun e s=>?_
   cases e with
   | nrm=>exact h1 b hb s
   | exit id=>exact Det.here _ _
   | ret=>exact Det.here _ _
  ·have:hpN T ext (n + 1) f xs s=fun k=>match T f with | none=>none | some c=>if xs.length=c.np then c.code.run (q3s T ext n) ⟨lpN T ext n,hpN T ext n⟩ (s.initH xs) (finH c k) else none:=by funext k; rw [hpN]; rfl
   rw [this];cases hT:T f with
   | none=>exact Det.no
   | some c =>
    simp only;split
    ·refine (hr c.code (hD f c hT) _).bind (g:=fun k=>finH c k) fun e s=>?_
     cases e with
     | exit id=>exact Det.no
     | nrm =>
      simp only [finH];cases (resS s c.res).bind packS with
      | none=>exact Det.no
      | some x=>exact Det.here _ _
     | ret =>
      simp only [finH];cases (resS s c.res).bind packS with
      | none=>exact Det.no
      | some x=>exact Det.here _ _
    ·exact Det.no
theorem run_reach (hD:∀ f c,T f=some c->c.code.det=true) {c:C} (hc:c.det=true) {s:MSt} {F:Ex->MSt->Prop} (h:∀ (k:Ex->MSt->Option RV) (r:RV),(∀ e s',F e s'->k e s'=some r)->c.run (evC T ext) (evK T ext) s k=some r):∃ e s',F e s'/\∀ (k:Ex->MSt->Option RV) (r:RV),k e s'=some r->c.run (evC T ext) (evK T ext) s k=some r:=by
 classical
 obtain ⟨m,hm⟩:=(ev_code c s (fun e s'=>if F e s' then some (default:RV) else none) default (fun _ e s'=>if F e s' then some (default:RV) else none) (fun e s' r' h'=>Late.now h') (h _ _ fun e s' hF=>if_pos hF)).some;obtain ⟨d1,d2⟩:=det_N (T:=T) (ext:=ext) hD m;rcases q8u (call:=q3s T ext m) (lh:=⟨lpN T ext m,hpN T ext m⟩) d1 d2 c hc s with hd | ⟨e,s',hd⟩
 ·rw [hd] at hm;cases hm
 ·rw [hd] at hm;have hF:F e s':=by
   by_cases hF:F e s'
   ·exact hF
   ·rw [if_neg hF] at hm;cases hm
  refine ⟨e,s',hF,fun k r hk=>?_⟩;have hN:c.run (q3s T ext m) ⟨lpN T ext m,hpN T ext m⟩ s k=some r:=(hd k).trans hk;exact Exists.elim (q29 (lpA:=⟨lpN T ext m,hpN T ext m⟩) (callB:=fun _=>evC T ext) (lpB:=fun _=>evK T ext) (fun f args S r' h'=>Late.now (q84.2 ⟨m,h'⟩)) (fun f xs s1 k1 r1 km hk1 h1=>((q7u m).2.2 f xs s1 k1 r1 km hk1 h1).imp fun m' hm'=>evH_some.2 ⟨m',hm'⟩) (fun b s1 k1 r1 km hk1 h1=>((q7u m).2.1 b s1 k1 r1 km hk1 h1).imp fun m' hm'=>evL_some.2 ⟨m',hm'⟩) c s k r (fun _=>k) (fun e s' r' h'=>Late.now h') hN).some fun _ h'=>h'
theorem evC_reach {f:Nat} {args:List AV} {S0:Option AV} (hD:∀ f c,T f=some c->c.code.det=true) (c:FnC) (hT:T f=some c) (hl:args.length=c.np) {F:Ex->MSt->Prop} {P:RV->Prop} (h:∀ (k:Ex->MSt->Option RV) (r:RV),(∀ e s',F e s'->k e s'=some r)->c.code.run (evC T ext) (evK T ext) (MSt.init args S0) k=some r) (hF:∀ e s',F e s'->∃ r,fin c S0 e s'=some r/\P r) (hm:q6H args=false:=by rfl) (hS:noItO S0=true:=by rfl):∃ r,P r/\evC T ext f args S0=some r:=by
 obtain ⟨e,s',h1,h2⟩:=run_reach hD (hD f c hT) h;obtain ⟨r,h3,h4⟩:=hF e s' h1;exact ⟨r,h4,evC_intro c hT hl (h2 _ _ h3) hm hS⟩
end
end
noncomputable def allT:Nat->Option FnC
 | 4=>some q1j
 | 18=>some q2B
 | 19=>some q8V
 | 21=>some q4T
 | 23=>some q3d
 | 24=>some q2U
 | 25=>some q4j
 | 26=>some q1I
 | 27=>some q2i
 | 28=>some q5r
 | 29=>some q6a
 | 32=>some q7j
 | 33=>some q8Z
 | 34=>some q2Y
 | 35=>some q81
 | 41=>some q4S
 | 43=>some q4h
 | 69=>some q27
 | 70=>some c_law20_rec
 | 71=>some qa9
 | 74=>some q5q
 | 75=>some q0Z
 | 76=>some q3f
 | 77=>some q0e
 | 78=>some q0s
 | 79=>some q1K
 | 80=>some qab
 | 81=>some q6c
 | 85=>some q7D
 | 86=>some q4n
 | 87=>some q66
 | 88=>some q5k
 | 89=>some q6X
 | 90=>some q65
 | 91=>some q6V
 | 92=>some q5l
 | 93=>some q6W
 | 95=>some q3a
 | 97=>some q4e
 | 99=>some q4C
 | 101=>some q3U
 | 120=>some q5p
 | 121=>some q5n
 | 122=>some q4g
 | 123=>some q4D
 | 124=>some q8Y
 | 125=>some q8k
 | 126=>some c_ref14_to
 | 127=>some q69
 | 128=>some q1S
 | 129=>some q1p
 | 130=>some q2j
 | 131=>some q36
 | 132=>some q2F
 | 133=>some q6Z
 | 134=>some q4M
 | 135=>some q0V
 | 136=>some q1P
 | 137=>some q4l
 | 139=>some q7z
 | 140=>some q2x
 | 141=>some q2s
 | 142=>some q0I
 | 143=>some q48
 | 144=>some q2R
 | 145=>some q3C
 | 149=>some q0m
 | 150=>some q49
 | 151=>some q08
 | 152=>some q7C
 | 153=>some q6y
 | 154=>some q4m
 | 155=>some q2z
 | 156=>some q1q
 | 157=>some q4f
 | 158=>some q2m
 | 159=>some q1d
 | 160=>some q34
 | 169=>some q6v
 | 170=>some q6w
 | 171=>some q41
 | 172=>some q4E
 | 173=>some q3b
 | 174=>some q3G
 | 175=>some q4d
 | 176=>some q4J
 | 178=>some q5o
 | 179=>some q3A
 | 180=>some q0c
 | 181=>some q67
 | 182=>some q02
 | 183=>some c_ref08_id
 | 184=>some q68
 | 185=>some q6Y
 | 186=>some c_ref03_Big
 | 187=>some c_ref03_Put
 | 188=>some qaa
 | 189=>some q0M
 | 190=>some q8X
 | 191=>some q5m
 | 192=>some q1e
 | 193=>some q35
 | 194=>some q46
 | 195=>some q0j
 | 196=>some q1A
 | 197=>some q0S
 | 203=>some q3D
 | 204=>some q2V
 | 205=>some q09
 | 206=>some q2S
 | 207=>some q0h
 | 208=>some q0t
 | 209=>some q4b
 | 210=>some q2r
 | 211=>some q4c
 | 212=>some q4a
 | 213=>some q2f
 | 214=>some q3I
 | 215=>some q5t
 | 216=>some q2J
 | 217=>some q4R
 | 218=>some q5e
 | 219=>some q2w
 | 221=>some q07
 | 222=>some q5s
 | 223=>some q0R
 | 224=>some q4B
 | 225=>some q5j
 | 226=>some q80
 | 227=>some q06
 | 228=>some q37
 | 229=>some q4Q
 | 230=>some q7i
 | 231=>some q5I
 | 232=>some q5H
 | 233=>some q6x
 | 234=>some q2q
 | 235=>some q3M
 | 236=>some q3L
 | 237=>some q0N
 | 238=>some q1c
 | 239=>some qad
 | 240=>some q6d
 | 241=>some q1b
 | 242=>some q3Z
 | 243=>some q4t
 | 244=>some q8h
 | 245=>some qaf
 | 246=>some q7A
 | 247=>some q7y
 | 248=>some q3H
 | 249=>some q45
 | 250=>some q6b
 | 251=>some q4N
 | 252=>some q1a
 | 253=>some q0J
 | 254=>some q13
 | 255=>some q1o
 | 256=>some q0w
 | 257=>some q14
 | 258=>some q4o
 | 259=>some q1V
 | 260=>some q3g
 | 261=>some q64
 | 262=>some q1u
 | 263=>some q8i
 | 264=>some q7f
 | 265=>some q42
 | 266=>some q1n
 | 267=>some q31
 | 268=>some q30
 | 269=>some q8j
 | 270=>some q7g
 | 271=>some qac
 | 272=>some qae
 | 273=>some q4s
 | 274=>some q4P
 | 277=>some q7h
 | 278=>some q2G
 | 279=>some q3z
 | 281=>some q1Z
 | 283=>some q1x
 | _=>none
theorem allT_ok (f:Nat) (c:FnC) (h:allT f=some c):FnOk Tryz.prog f c:=by
 unfold allT at h;split at h
 ·injection h with h; subst h; exact q7m
 ·injection h with h; subst h; exact ok_ref20_Of
 ·injection h with h; subst h; exact ok_law20_awake
 ·injection h with h; subst h; exact q7p
 ·injection h with h; subst h; exact qaP
 ·injection h with h; subst h; exact q9V
 ·injection h with h; subst h; exact ok_ref20_Local
 ·injection h with h; subst h; exact q7q
 ·injection h with h; subst h; exact q8C
 ·injection h with h; subst h; exact ok_ref20_Pairs
 ·injection h with h; subst h; exact q8B
 ·injection h with h; subst h; exact q9U
 ·injection h with h; subst h; exact ok_ref20_Blame
 ·injection h with h; subst h; exact ok_ref07_Of
 ·injection h with h; subst h; exact ok_ref20_In
 ·injection h with h; subst h; exact ok_ref20_Next
 ·injection h with h; subst h; exact ok_ref20_Error
 ·injection h with h; subst h; exact qaI
 ·injection h with h; subst h; exact ok_law20_rec
 ·injection h with h; subst h; exact ok_law20_list
 ·injection h with h; subst h; exact ok_ref14_Error
 ·injection h with h; subst h; exact ok_ref14_Read
 ·injection h with h; subst h; exact qaU
 ·injection h with h; subst h; exact q9k
 ·injection h with h; subst h; exact ok_ref20_Reason
 ·injection h with h; subst h; exact q7r
 ·injection h with h; subst h; exact ok_ref20_fine
 ·injection h with h; subst h; exact q8H
 ·injection h with h; subst h; exact qaR
 ·injection h with h; subst h; exact q6L
 ·injection h with h; subst h; exact ok_ref07_kind
 ·injection h with h; subst h; exact ok_ref07_Named
 ·injection h with h; subst h; exact ok_ref07_low
 ·injection h with h; subst h; exact ok_ref07_high
 ·injection h with h; subst h; exact ok_ref07_ids
 ·injection h with h; subst h; exact ok_ref07_parts
 ·injection h with h; subst h; exact ok_ref07_key
 ·injection h with h; subst h; exact qaB
 ·injection h with h; subst h; exact ok_ref11_Sound
 ·injection h with h; subst h; exact ok_ref07_Member
 ·injection h with h; subst h; exact ok_ref20_one
 ·injection h with h; subst h; exact ok_ref10_Error
 ·injection h with h; subst h; exact ok_ref08_Plain
 ·injection h with h; subst h; exact qaQ
 ·injection h with h; subst h; exact ok_ref07_Symbol
 ·injection h with h; subst h; exact ok_ref14_union
 ·injection h with h; subst h; exact ok_ref14_record
 ·injection h with h; subst h; exact ok_ref14_to
 ·injection h with h; subst h; exact ok_ref14_read
 ·injection h with h; subst h; exact q9W
 ·injection h with h; subst h; exact qaV
 ·injection h with h; subst h; exact q8F
 ·injection h with h; subst h; exact q8G
 ·injection h with h; subst h; exact ok_ref20_keys
 ·injection h with h; subst h; exact ok_ref20_all
 ·injection h with h; subst h; exact ok_ref20_record
 ·injection h with h; subst h; exact q6p
 ·injection h with h; subst h; exact q6r
 ·injection h with h; subst h; exact qaS
 ·injection h with h; subst h; exact qaF
 ·injection h with h; subst h; exact q9c
 ·injection h with h; subst h; exact ok_ref07_target
 ·injection h with h; subst h; exact qaK
 ·injection h with h; subst h; exact qaJ
 ·injection h with h; subst h; exact q9L
 ·injection h with h; subst h; exact ok_ref11_Finite
 ·injection h with h; subst h; exact qaN
 ·injection h with h; subst h; exact ok_ref07_Valid
 ·injection h with h; subst h; exact ok_ref08_fit
 ·injection h with h; subst h; exact qaO
 ·injection h with h; subst h; exact q9i
 ·injection h with h; subst h; exact qaT
 ·injection h with h; subst h; exact q9f
 ·injection h with h; subst h; exact ok_value_Equal
 ·injection h with h; subst h; exact ok_ref14_Means
 ·injection h with h; subst h; exact q7s
 ·injection h with h; subst h; exact q4Z
 ·injection h with h; subst h; exact q8D
 ·injection h with h; subst h; exact q9d
 ·injection h with h; subst h; exact q9e
 ·injection h with h; subst h; exact qaz
 ·injection h with h; subst h; exact ok_ref07_hollow
 ·injection h with h; subst h; exact qaD
 ·injection h with h; subst h; exact q9M
 ·injection h with h; subst h; exact ok_ref11_Error
 ·injection h with h; subst h; exact ok_ref11_Counts
 ·injection h with h; subst h; exact ok_ref08_order
 ·injection h with h; subst h; exact ok_ref03_Zigzag
 ·injection h with h; subst h; exact ok_ref07_own
 ·injection h with h; subst h; exact ok_ref07_uses
 ·injection h with h; subst h; exact ok_ref08_zero
 ·injection h with h; subst h; exact ok_ref08_id
 ·injection h with h; subst h; exact ok_ref08_rest
 ·injection h with h; subst h; exact ok_ref08_all
 ·injection h with h; subst h; exact ok_ref03_Big
 ·injection h with h; subst h; exact ok_ref03_Put
 ·injection h with h; subst h; exact ok_ref09_part
 ·injection h with h; subst h; exact q9h
 ·injection h with h; subst h; exact ok_ref09_field
 ·injection h with h; subst h; exact ok_ref08_Equal
 ·injection h with h; subst h; exact q50
 ·injection h with h; subst h; exact q8E
 ·injection h with h; subst h; exact qaG
 ·injection h with h; subst h; exact q8f
 ·injection h with h; subst h; exact q77
 ·injection h with h; subst h; exact q5a
 ·injection h with h; subst h; exact ok_schema_Valid
 ·injection h with h; subst h; exact q9X
 ·injection h with h; subst h; exact qaC
 ·injection h with h; subst h; exact q9R
 ·injection h with h; subst h; exact ok_ref11_count
 ·injection h with h; subst h; exact q9Q
 ·injection h with h; subst h; exact ok_ref07_plain
 ·injection h with h; subst h; exact ok_ref06_IsName
 ·injection h with h; subst h; exact qaM
 ·injection h with h; subst h; exact qaL
 ·injection h with h; subst h; exact q8z
 ·injection h with h; subst h; exact q9P
 ·injection h with h; subst h; exact ok_value_Plain
 ·injection h with h; subst h; exact q8d
 ·injection h with h; subst h; exact q7o
 ·injection h with h; subst h; exact q7U
 ·injection h with h; subst h; exact q7T
 ·injection h with h; subst h; exact ok_schema_form
 ·injection h with h; subst h; exact ok_schema_uses
 ·injection h with h; subst h; exact q8A
 ·injection h with h; subst h; exact ok_ref06_letter
 ·injection h with h; subst h; exact ok_ref06_digit
 ·injection h with h; subst h; exact ok_ref07_id
 ·injection h with h; subst h; exact ok_value_fits
 ·injection h with h; subst h; exact q8I
 ·injection h with h; subst h; exact q7n
 ·injection h with h; subst h; exact q9O
 ·injection h with h; subst h; exact q8e
 ·injection h with h; subst h; exact q8c
 ·injection h with h; subst h; exact q9g
 ·injection h with h; subst h; exact ok_lexer_IsName
 ·injection h with h; subst h; exact q9T
 ·injection h with h; subst h; exact q9S
 ·injection h with h; subst h; exact ok_schema_equal
 ·injection h with h; subst h; exact ok_value_proper
 ·injection h with h; subst h; exact ok_value_free
 ·injection h with h; subst h; exact ok_value_each
 ·injection h with h; subst h; exact qaW
 ·injection h with h; subst h; exact q6q
 ·injection h with h; subst h; exact q76
 ·injection h with h; subst h; exact ok_encode_Field
 ·injection h with h; subst h; exact ok_varint_Put
 ·injection h with h; subst h; exact qaH
 ·injection h with h; subst h; exact qaA
 ·injection h with h; subst h; exact q9N
 ·injection h with h; subst h; exact qaE
 ·injection h with h; subst h; exact ok_schema_ids
 ·injection h with h; subst h; exact ok_schema_blank
 ·injection h with h; subst h; exact q61
 ·injection h with h; subst h; exact q4Y
 ·injection h with h; subst h; exact q9j
 ·injection h with h; subst h; exact ok_schema_same
 ·injection h with h; subst h; exact ok_value_bare
 ·injection h with h; subst h; exact q4r
 ·injection h with h; subst h; exact qaX
 ·injection h with h; subst h; exact q7S
 ·injection h with h; subst h; exact qaY
 ·injection h with h; subst h; exact ok_cmp_Or_int
 ·injection h with h; subst h; exact q7R
 ·injection h with h; subst h; exact ok_encode_field
 ·injection h with h; subst h; exact q9I
 ·injection h with h; subst h; exact q6K
 ·injection h with h; subst h; exact q5b
 ·injection h with h; subst h; exact q8y
 ·injection h with h; subst h; exact q8x
 ·injection h with h; subst h; exact ok_encode_sized
 ·injection h with h; subst h; exact q9J
 ·injection h with h; subst h; exact ok_value_Fits
 ·injection h with h; subst h; exact ok_varint_Big
 ·injection h with h; subst h; exact q75
 ·injection h with h; subst h; exact q7l
 ·injection h with h; subst h; exact q9K
 ·injection h with h; subst h; exact q4z
 ·injection h with h; subst h; exact q60
 ·injection h with h; subst h; exact q3x
 ·injection h with h; subst h; exact q2N
 ·cases h
theorem allT_det (f:Nat) (c:FnC) (h:allT f=some c):c.code.det=true:=by
 unfold allT at h;split at h <;> first | (cases h; done) | (injection h with h; subst h; kernel_rfl)
section
mutual
def AV.beq:AV->AV->Bool
 | .int k n,.int k' n'=>decide (k=k')&&decide (n=n')
 | .bool a,.bool b=>a == b
 | .str a,.str b=>decide (a=b)
 | .nilP,.nilP=>true
 | .ptr t n o,.ptr t' n' o'=>Nat.beq t t'&&Nat.beq n n'&&Nat.beq o o'
 | .ip l,.ip m=>AV.beqL l m
 | .bp l,.bp m=>AV.beqL l m
 | .sl b l,.sl b' m=>(b == b')&&AV.beqLL l m
 | .bl l,.bl m=>AV.beqLL l m
 | .fn f l,.fn g m=>Nat.beq f g&&AV.beqL l m
 | .agg l,.agg m=>AV.beqL l m
 | .tup l,.tup m=>AV.beqL l m
 | .undef,.undef=>true
 | _,_=>false
def AV.beqL:List AV->List AV->Bool
 | [],[]=>true
 | x :: l,y :: m=>AV.beq x y&&AV.beqL l m
 | _,_=>false
def AV.beqLL:List (List AV)->List (List AV)->Bool
 | [],[]=>true
 | x :: l,y :: m=>AV.beqL x y&&AV.beqLL l m
 | _,_=>false
end
mutual
theorem AV.beq_eq:∀ (x y:AV),AV.beq x y=true->x=y
 | .int k n,y,h=>by cases y <;> simp [AV.beq] at h <;> simp [h]
 | .bool a,y,h=>by cases y <;> simp [AV.beq] at h <;> simp [h]
 | .str a,y,h=>by cases y <;> simp [AV.beq] at h <;> simp [h]
 | .nilP,y,h=>by cases y <;> simp [AV.beq] at h <;> rfl
 | .ptr t n o,y,h=>by cases y <;> simp [AV.beq] at h <;> simp [h]
 | .ip l,y,h=>by cases y <;> simp only [AV.beq] at h <;> first | cases h | rw [AV.beqL_eq l _ h]
 | .bp l,y,h=>by cases y <;> simp only [AV.beq] at h <;> first | cases h | rw [AV.beqL_eq l _ h]
 | .sl b l,y,h=>by
  cases y <;> simp only [AV.beq] at h <;> first | cases h | skip
  rw [yb] at h
  rw [AV.beqLL_eq l _ h.2,show b=_ from by simpa using h.1]
 | .bl l,y,h=>by cases y <;> simp only [AV.beq] at h <;> first | cases h | rw [AV.beqLL_eq l _ h]
 | .ref ..,y,h=>by cases y <;> simp [AV.beq] at h
 | .mp ..,y,h=>by cases y <;> simp [AV.beq] at h
 | .fn f l,y,h=>by
  cases y <;> simp only [AV.beq] at h <;> first | cases h | skip
  rw [yb] at h
  rw [AV.beqL_eq l _ h.2,show f=_ from by simpa using h.1]
 | .agg l,y,h=>by cases y <;> simp only [AV.beq] at h <;> first | cases h | rw [AV.beqL_eq l _ h]
 | .tup l,y,h=>by cases y <;> simp only [AV.beq] at h <;> first | cases h | rw [AV.beqL_eq l _ h]
 | .undef,y,h=>by cases y <;> simp [AV.beq] at h <;> rfl
theorem AV.beqL_eq:∀ (x y:List AV),AV.beqL x y=true->x=y
 | [],[],_=>rfl
 | [],_ :: _,h=>by simp [AV.beqL] at h
 | _ :: _,[],h=>by simp [AV.beqL] at h
 | x :: l,y :: m,h=>by
  simp only [AV.beqL,yb] at h
  rw [AV.beq_eq x y h.1,AV.beqL_eq l m h.2]
theorem AV.beqLL_eq:∀ (x y:List (List AV)),AV.beqLL x y=true->x=y
 | [],[],_=>rfl
 | [],_ :: _,h=>by simp [AV.beqLL] at h
 | _ :: _,[],h=>by simp [AV.beqLL] at h
 | x :: l,y :: m,h=>by
  simp only [AV.beqLL,yb] at h
  rw [AV.beqL_eq x y h.1,AV.beqLL_eq l m h.2]
end
def AV.beqO:Option AV->Option AV->Bool
 | none,none=>true
 | some x,some y=>AV.beq x y
 | _,_=>false
theorem AV.beqO_eq:∀ (x y:Option AV),AV.beqO x y=true->x=y
 | none,none,_=>rfl
 | none,some _,h=>by cases h
 | some _,none,h=>by cases h
 | some x,some y,h=>by rw [AV.beq_eq x y h]
structure ME where
 f:Nat
 args:List AV
 S:Option AV
 r:RV
def look:List ME->q1z
 | [],_,_,_=>none
 | e :: l,f,args,S=>if Nat.beq e.f f&&(AV.beqL e.args args&&AV.beqO e.S S) then some e.r else look l f args S
mutual
noncomputable def callM (M:List ME) (T:Nat->Option FnC) (ext:q1z):Nat->q1z
 | 0,f,args,S0=>match T f with
  | none=>ext f args S0
  | some _=>none
 | n + 1,f,args,S0=>match look M f args S0 with
  | some r=>some r
  | none=>match T f with
   | none=>ext f args S0
   | some c=>match markR args,S0 with
    | some rest,some (.agg cs)=>if rest.length=c.np/\q6H rest=false then c.code.run (callM M T ext n) ⟨lpM M T ext n,hpM M T ext n⟩ (MSt.initR rest cs) (finR c cs.length) else none
    | some _,_=>none
    | none,_=>if args.length=c.np/\q6H args=false/\noItO S0=true then c.code.run (callM M T ext n) ⟨lpM M T ext n,hpM M T ext n⟩ (MSt.init args S0) (fin c S0) else none
noncomputable def lpM (M:List ME) (T:Nat->Option FnC) (ext:q1z):Nat->LpT
 | 0,_,_,_=>none
 | n + 1,b,s,k=>b.run (callM M T ext n) ⟨lpM M T ext n,hpM M T ext n⟩ s (q8r (lpM M T ext n) b k)
noncomputable def hpM (M:List ME) (T:Nat->Option FnC) (ext:q1z):Nat->HpT
 | 0,_,_,_,_=>none
 | n + 1,f,args,s,k=>match T f with
  | none=>none
  | some c=>if args.length=c.np then c.code.run (callM M T ext n) ⟨lpM M T ext n,hpM M T ext n⟩ (s.initH args) (finH c k) else none
end
variable {T:Nat->Option FnC} {ext:q1z} {M:List ME}
def q0r (T:Nat->Option FnC) (ext:q1z) (M:List ME):Prop:=∀ f args S r,look M f args S=some r->evC T ext f args S=some r
theorem M_late (hM:q0r T ext M):∀ N,(∀ f args S r,callM M T ext N f args S=some r->Late fun m=>q3s T ext m f args S=some r) ∧
  (∀ b s k r (km:Nat->Ex->MSt->Option RV),(∀ e s' r',k e s'=some r'->Late fun m=>km m e s'=some r')->lpM M T ext N b s k=some r->Late fun m=>lpN T ext m b s (km m)=some r) ∧
  HLate (hpM M T ext N) (hpN T ext)
 | 0=>by
  refine ⟨fun f args S r h=>⟨0,fun m _=>?_⟩,fun b s k r km _ h=>(by cases h),fun f xs s k r km _ h=>(by cases h)⟩;unfold callM at h;cases hT:T f with
  | none=>rw [hT] at h; cases m <;> (unfold q3s; rw [hT]; exact h)
  | some c=>rw [hT] at h; cases h
 | N + 1=>by
  obtain ⟨ih1,ih2,ih3⟩:=M_late hM N;refine ⟨?_,?_,?_⟩
  ·intro f args S0 r h;unfold callM at h;cases hl:look M f args S0 with
   | some r' =>
    rw [hl] at h;injection h with h;subst h;exact ev_late1 f args S0 _ (hM f args S0 _ hl)
   | none =>
   rw [hl] at h;simp only at h;cases hT:T f with
   | none=>rw [hT] at h; exact ⟨0,fun m _=>by cases m <;> (unfold q3s; rw [hT]; exact h)⟩
   | some c =>
    rw [hT] at h;cases hm:markR args with
    | some rest =>
     cases S0 with
     | none=>rw [hm] at h; cases h
     | some S =>
      cases S with
      | agg cs =>
       rw [hm] at h;simp only at h;split at h
       ·rename_i hl;refine Late.pred ((q29 (lpA:=⟨lpM M T ext N,hpM M T ext N⟩) (lpB:=fun m=>⟨lpN T ext m,hpN T ext m⟩) ih1 ih3 ih2 c.code _ _ r (fun _=>finR c cs.length) (fun e s' r' h'=>Late.now h') h).imp fun m hm'=>?_);unfold q3s;rw [hT];simp only [hm];rw [if_pos hl];exact hm'
       ·cases h
      | _=>rw [hm] at h; cases h
    | none =>
     rw [hm] at h;simp only at h;split at h
     ·rename_i hl;refine Late.pred ((q29 (lpA:=⟨lpM M T ext N,hpM M T ext N⟩) (lpB:=fun m=>⟨lpN T ext m,hpN T ext m⟩) ih1 ih3 ih2 c.code _ _ r (fun _=>fin c S0) (fun e s' r' h'=>Late.now h') h).imp fun m hm'=>?_);unfold q3s;rw [hT];simp only [hm];rw [if_pos hl];exact hm'
     ·cases h
  ·intro b s k r km hk h;unfold lpM at h;refine Late.pred ((q29 (lpA:=⟨lpM M T ext N,hpM M T ext N⟩) (lpB:=fun m=>⟨lpN T ext m,hpN T ext m⟩) ih1 ih3 ih2 b s _ r (fun m=>q8r (lpN T ext m) b (km (m + 1))) (fun e s' r' h'=>?_) h).imp fun m hm=>?_)
   ·cases e with
    | nrm=>exact ih2 b s' k r' (fun m=>km (m + 1)) (fun e s'' r'' h''=>(hk e s'' r'' h'').succ) h'
    | exit id=>exact (hk _ _ _ h').succ
    | ret=>exact (hk _ _ _ h').succ
   ·unfold lpN;exact hm
  ·intro f xs s k r km hk h;unfold hpM at h;cases hT:T f with
   | none=>rw [hT] at h; cases h
   | some c =>
    rw [hT] at h;simp only at h;split at h
    ·rename_i hl;refine Late.pred ((q29 (lpA:=⟨lpM M T ext N,hpM M T ext N⟩) (lpB:=fun m=>⟨lpN T ext m,hpN T ext m⟩) ih1 ih3 ih2 c.code _ _ r (fun m=>finH c (km (m + 1))) (fun e s' r' h'=>?_) h).imp fun m hm=>?_)
     ·cases e with
      | exit id=>cases h'
      | nrm =>
       simp only [finH] at h' ⊢;obtain ⟨y,hy,h'⟩:=y9.1 h';simp only [hy,y0];exact (hk _ _ _ h').succ
      | ret =>
       simp only [finH] at h' ⊢;obtain ⟨y,hy,h'⟩:=y9.1 h';simp only [hy,y0];exact (hk _ _ _ h').succ
     ·unfold hpN;rw [hT];simp only;rw [if_pos hl];exact hm
    ·cases h
theorem q0r.nil:q0r T ext []:=fun f args S r h=>by cases h
theorem q0r.run (hM:q0r T ext M) {f:Nat} {args:List AV} {S:Option AV} {r:RV} (N:Nat) (h:callM M T ext N f args S=some r):evC T ext f args S=some r:=by
 obtain ⟨m,hm⟩:=((M_late hM N).1 f args S r h).some;exact q84.2 ⟨m,hm⟩
theorem q0r.cons (hM:q0r T ext M) {e:ME} (h:evC T ext e.f e.args e.S=some e.r):q0r T ext (e :: M):=fun f args S r hl=>by
 unfold look at hl;split at hl
 ·rename_i hc;simp only [yb] at hc;obtain ⟨h1,h2,h3⟩:=hc;injection hl with hl;have h1:e.f=f:=by simpa using h1
  rw [<- h1,<- AV.beqL_eq _ _ h2,<- AV.beqO_eq _ _ h3,<- hl];exact h
 ·exact hM f args S r hl
theorem q0r.more (hM:q0r T ext M) (N:Nat) (e:ME) (h:callM M T ext N e.f e.args e.S=some e.r):q0r T ext (e :: M):=hM.cons (hM.run N h)
end
section
def putE (e:Nat->Slot) (d:Nat) (x:Slot):Nat->Slot:=fun t=>if t=d then x else e t
theorem q3X (e:Nat->Slot) (d:Nat) (x:Slot) (t:Nat):putE e d x t=if t=d then x else e t:=(rfl)
def setM (m:Nat->Nat->Option (List Slot)) (t n:Nat) (r:List Slot):Nat->Nat->Option (List Slot):=fun t' n'=>if t'=t/\n'=n then some r else m t' n'
theorem q0z (m:Nat->Nat->Option (List Slot)) (t n:Nat) (r:List Slot) (t' n':Nat):setM m t n r t' n'=if t'=t/\n'=n then some r else m t' n':=(rfl)
def setO (m:Nat->Nat->Option AV) (t n:Nat) (r:AV):Nat->Nat->Option AV:=fun t' n'=>if t'=t/\n'=n then some r else m t' n'
theorem setO_at (m:Nat->Nat->Option AV) (t n:Nat) (r:AV) (t' n':Nat):setO m t n r t' n'=if t'=t/\n'=n then some r else m t' n':=(rfl)
def stripE (k:Nat) (e:Nat->Slot):Nat->Slot:=fun t=>(e t).strip k
theorem stripE_at (k:Nat) (e:Nat->Slot) (t:Nat):stripE k e t=(e t).strip k:=(rfl)
def stripM (k:Nat) (m:Nat->Nat->Option (List Slot)):Nat->Nat->Option (List Slot):=fun t n=>(m t n).map (·.map (Slot.strip k))
theorem stripM_at (k:Nat) (m:Nat->Nat->Option (List Slot)) (t n:Nat):stripM k m t n=(m t n).map (·.map (Slot.strip k)):=(rfl)
theorem Slot.strip_v (k:Nat) (x:Slot):(x.strip k).v=x.v:=(rfl)
theorem Slot.strip_a (k:Nat) (x:Slot):(x.strip k).a=x.a.strip k:=(rfl)
theorem Slot.strip_mk (k:Nat) (v:AV) (a:An):Slot.strip k ⟨v,a⟩=⟨v,a.strip k⟩:=(rfl)
def argE (args:List AV):Nat->Slot:=fun t=>⟨args.getD t .undef,.no⟩
theorem argE_at (args:List AV) (t:Nat):argE args t=⟨args.getD t .undef,.no⟩:=(rfl)
def noM:Nat->Nat->Option (List Slot):=fun _ _=>none
theorem noM_at (t n:Nat):noM t n=none:=(rfl)
def objE (S0:Option AV):Nat->Nat->Option AV:=fun t n=>if t=0/\n=0 then S0 else none
theorem objE_at (S0:Option AV) (t n:Nat):objE S0 t n=if t=0/\n=0 then S0 else none:=(rfl)
def undE:Nat->Slot:=fun _=>⟨.undef,.no⟩
theorem undE_at (t:Nat):undE t=⟨.undef,.no⟩:=(rfl)
theorem bind_some2 {α β:Type} (a:α) (f:α->Option β):(some a).bind f=f a:=(rfl)
theorem take_map_len {α β:Type} (f:α->β) (l:List α):(l.map f).take l.length=l.map f:=yO (by simp)
theorem m_init (args:List AV) (S0:Option AV):MSt.init args S0=⟨argE args,noM,1,objE S0,undE⟩:=(rfl)
theorem m_put (s:MSt) (d:Nat) (x:Slot):s.put (some d) x=⟨putE s.env d x,s.mem,s.next,s.obj,s.gh⟩:=(rfl)
theorem m_put0 (s:MSt) (x:Slot):s.put none x=s:=(rfl)
theorem m_row (s:MSt) (t n:Nat) (r:List Slot):s.setRow t n r=⟨s.env,setM s.mem t n r,s.next,s.obj,s.gh⟩:=(rfl)
theorem m_obj (s:MSt) (t n:Nat) (r:AV):s.setObj t n r=⟨s.env,s.mem,s.next,setO s.obj t n r,s.gh⟩:=(rfl)
theorem m_strip (s:MSt) (k:Nat):s.strip k=⟨stripE k s.env,stripM k s.mem,s.next,s.obj,stripE k s.gh⟩:=(rfl)
theorem m_stripA (s:MSt) (k:Nat) (e:TypeId):s.stripA (.own k e)=s.strip k:=(rfl)
theorem m_stripX (s:MSt):s.stripA .ex=s:=(rfl)
def killE (t n:Nat) (e:Nat->Slot):Nat->Slot:=fun j=>(e j).kill t n
theorem q0x (t n:Nat) (e:Nat->Slot) (j:Nat):killE t n e j=(e j).kill t n:=(rfl)
def killM (t n:Nat) (m:Nat->Nat->Option (List Slot)):Nat->Nat->Option (List Slot):=fun t' n'=>if t'=t/\n'=n then none else (m t' n').map (·.map (Slot.kill t n))
theorem q0B (t n:Nat) (m:Nat->Nat->Option (List Slot)) (t' n':Nat):killM t n m t' n'=if t'=t/\n'=n then none else (m t' n').map (·.map (Slot.kill t n)):=(rfl)
theorem Slot.kill_v (t n:Nat) (x:Slot):(x.kill t n).v=x.v.kill t n:=(rfl)
theorem Slot.kill_a (t n:Nat) (x:Slot):(x.kill t n).a=x.a:=(rfl)
theorem Slot.kill_mk (t n:Nat) (v:AV) (a:An):Slot.kill t n ⟨v,a⟩=⟨v.kill t n,a⟩:=(rfl)
theorem m_kill (s:MSt) (t n:Nat):s.killO (some (t,n))=⟨killE t n s.env,killM t n s.mem,s.next,s.obj,killE t n s.gh⟩:=(rfl)
def rowE (cs:List AV):Nat->Nat->Option (List Slot):=fun t n=>if t=0/\n=0 then some (cs.map fun v=>⟨v,q1y v⟩) else none
theorem rowE_at (cs:List AV) (t n:Nat):rowE cs t n=if t=0/\n=0 then some (cs.map fun v=>⟨v,q1y v⟩) else none:=(rfl)
theorem m_initR (args cs:List AV):MSt.initR args cs=⟨argE args,rowE cs,1,objE none,undE⟩:=by
 have:objE none=fun _ _=>none:=by funext t n; simp [objE]
 rw [this];rfl
def drop0M (m:Nat->Nat->Option (List Slot)):Nat->Nat->Option (List Slot):=fun t n=>if t=0/\n=0 then none else m t n
theorem drop0M_at (m:Nat->Nat->Option (List Slot)) (t n:Nat):drop0M m t n=if t=0/\n=0 then none else m t n:=(rfl)
theorem m_drop0 (s:MSt):s.drop0=⟨s.env,drop0M s.mem,s.next,s.obj,s.gh⟩:=(rfl)
def slotE (xs:List Slot):Nat->Slot:=fun t=>xs.getD t ⟨.undef,.no⟩
theorem slotE_at (xs:List Slot) (t:Nat):slotE xs t=xs.getD t ⟨.undef,.no⟩:=(rfl)
def waitE (nt:Nat) (e g:Nat->Slot):Nat->Slot:=fun t=>if t<nt then e t else g (t - nt)
theorem q2P (nt:Nat) (e g:Nat->Slot) (t:Nat):waitE nt e g t=if t<nt then e t else g (t - nt):=(rfl)
def backE (nt:Nat) (g:Nat->Slot):Nat->Slot:=fun t=>if t<nt then g t else ⟨.undef,.no⟩
theorem q7Y (nt:Nat) (g:Nat->Slot) (t:Nat):backE nt g t=if t<nt then g t else ⟨.undef,.no⟩:=(rfl)
def restE (nt:Nat) (g:Nat->Slot):Nat->Slot:=fun t=>g (t + nt)
theorem restE_at (nt:Nat) (g:Nat->Slot) (t:Nat):restE nt g t=g (t + nt):=(rfl)
theorem m_initH (s:MSt) (xs:List Slot):s.initH xs=⟨slotE xs,s.mem,s.next,s.obj,s.gh⟩:=(rfl)
theorem m_enter (s:MSt) (nt:Nat):s.enter nt=⟨s.env,s.mem,s.next + 1,s.obj,waitE nt s.env s.gh⟩:=(rfl)
theorem m_leave (s:MSt) (nt:Nat):s.leave nt=⟨backE nt s.gh,s.mem,s.next,s.obj,restE nt s.gh⟩:=(rfl)
theorem m_kill0 (s:MSt):s.killO none=s:=(rfl)
theorem kill0_free {v:AV} (h:v.free0=true) (t n:Nat):v.kill0 t n=v:=by
 cases v <;> first | rfl | (simp [AV.free0] at h; done)
theorem kill_map {cs:List AV} (h:cs.all AV.free0=true) (t n:Nat):cs.map (AV.kill0 t n)=cs:=by
 have h1:cs.map (AV.kill0 t n)=cs.map id:=yq fun x hx=>kill0_free (y6.1 h x hx) t n
 rwa [List.map_id] at h1
theorem kill_free {v:AV} (h:v.free=true) (t n:Nat):v.kill t n=v:=by
 cases v with
 | agg cs=>exact congrArg AV.agg (kill_map h t n)
 | _=>first | rfl | (simp [AV.free,AV.free0] at h; done)
theorem frz0_free {s:MSt} {v:AV} (h:v.free0=true):v.frz0 s=v:=by
 cases v <;> first | rfl | (simp [AV.free0] at h; done)
theorem frz_map {s:MSt} {cs:List AV} (h:cs.all AV.free0=true):cs.map (AV.frz0 s)=cs:=by
 have h1:cs.map (AV.frz0 s)=cs.map id:=yq fun x hx=>frz0_free (y6.1 h x hx)
 rwa [List.map_id] at h1
theorem frz_free {s:MSt} {v:AV} (h:v.free=true):v.frz s=v:=by
 cases v with
 | agg cs=>exact congrArg AV.agg (frz_map h)
 | _=>first | rfl | (simp [AV.free,AV.free0] at h; done)
section
variable {sz:Nat} {l:List (List AV)}
theorem q6j (l m:List (List AV)):q0g (l++m)=q0g l++q0g m:=by simp [q0g]
theorem q5X (h:q1f sz l=true):(q0g l).length=l.length * sz:=by
 induction l with
 | nil=>simp [q0g]
 | cons c r ih =>
  rw [q9x] at h;simp only [yb,decide_eq_true_eq] at h;have:=ih h.2;simp only [q0g,yG,List.map_append,yu,yx,yK] at this ⊢;rw [this,h.1,yB];omega
theorem q8J (h:q1f sz l=true) {k:Nat} (hk:k<=l.length):q0g l=q0g (l.take k)++q0g (l.drop k)/\(q0g (l.take k)).length=k * sz:=by
 refine ⟨by rw [<- q6j,List.take_append_drop],?_⟩;rw [q5X (elsOk_take h k),yD,Nat.min_eq_left hk]
theorem rowOf_take (h:q1f sz l=true) {k:Nat} (hk:k<=l.length):(q0g l).take (k * sz)=q0g (l.take k):=by
 obtain ⟨h1,h2⟩:=q8J h hk;rw [h1,<- h2,List.take_left]
theorem rowOf_drop (h:q1f sz l=true) {k:Nat} (hk:k<=l.length):(q0g l).drop (k * sz)=q0g (l.drop k):=by
 obtain ⟨h1,h2⟩:=q8J h hk;rw [h1,<- h2,List.drop_left]
theorem qa1 (c:List AV) (r:List (List AV)):q0g (c :: r)=c.map (⟨·,.no⟩)++q0g r:=by simp [q0g]
theorem elsOk_get (h:q1f sz l=true) {k:Nat} {c:List AV} (hk:l[k]?=some c):c.length=sz:=by
 simp only [q1f,y6] at h;simpa using h c (yo hk)
theorem rowOf_at (h:q1f 1 l=true) {k:Nat} {x:AV} (hk:l[k]?=some [x]):(q0g l)[k]?=some ⟨x,.no⟩:=by
 have hlt:=(ye.1 hk).1;obtain ⟨h1,h2⟩:=q8J h (k:=k) (by omega);have hd:l.drop k=[x] :: l.drop (k + 1):=by rw [yc hlt,(ye.1 hk).2]
 rw [h1,yQ (by omega),h2,hd,qa1];simp
theorem rowOf_load1 (h:q1f 1 l=true) {k:Nat} {x:AV} (hk:l[k]?=some [x]) (sz:Nat):q17 false sz k (q0g l)=some ⟨x,.no⟩:=by
 simp only [q17,yr,if_false];exact rowOf_at h hk
theorem rowOf_store1 (h:q1f 1 l=true) {k:Nat} (hk:k<l.length) {x:AV} (hx:x.leaf=true) (sz:Nat):q0i false sz k (q0g l) x .no=some (q0g (l.set k [x])):=by
 have hlen:=q5X h;simp only [q0i,yr,if_false];rw [if_pos ⟨hx,by omega⟩];congr 1;have e1:=rowOf_take h (k:=k) (by omega);have e2:=rowOf_drop h (k:=k + 1) (by omega);simp only [Nat.mul_one] at e1 e2;rw [List.set_eq_take_append_cons_drop,if_pos (by omega),e1,e2,List.set_eq_take_append_cons_drop,if_pos hk,q6j,qa1];simp
theorem q0K (z off:Nat) (r:List Slot):q17 false z off r=r[off]?:=by simp [q17]
theorem q0U (z off:Nat) (x:Slot) (r:List Slot):q17 true z off (x :: r)=if off + z<=(x :: r).length then some ⟨.agg ((((x :: r).drop off).take z).map (·.v)),.no⟩ else none:=by simp [q17]
theorem q0p (z off:Nat) (y:Slot) (r:List Slot) (x:AV) (a:An):q0i false z off (y :: r) x a=if x.leaf/\off<(y :: r).length then some ((y :: r).set off ⟨x,a⟩) else none:=by simp [q0i]
theorem q0q (z off:Nat) (y:Slot) (r:List Slot) (cs:List AV) (a:An):q0i true z off (y :: r) (.agg cs) a=if cs.length=z/\off + z<=(y :: r).length then some ((y :: r).take off++cs.map (⟨·,.no⟩)++(y :: r).drop (off + z)) else none:=by simp [q0i]
def q2t (l:List (List AV)):Bool:=l.all fun c=>c.all AV.free0
theorem q73 {α:Type} (f:α->List AV) (l:List α) (h:∀ x,(f x).all AV.free0=true):q2t (l.map f)=true:=by
 simp only [q2t,List.all_map,y6];exact fun x _=>h x
theorem q5W (h:q1f sz l=true) (hf:q2t l=true):q3u (q0g l) sz 0 l.length=some l:=by
 unfold q3u;rw [if_pos]
 ·congr 1;refine List.ext_getElem (by simp) fun i h1 h2=>?_
  simp only [List.getElem_map,List.getElem_range,yy];rw [rowOf_drop h (by omega),yc h2,qa1];have hc:=elsOk_get h (y7 h2);rw [<- hc,List.take_left' (by simp)];simp [Function.comp_def]
 ·refine ⟨by rw [q5X h]; omega,?_⟩;simp only [q0g,List.all_map,List.all_flatten,Function.comp_def];exact hf
end
section
variable {call:q1z} {lp:LH} {T:Nat->Option FnC} {ext:q1z}
noncomputable def seqK (call:q1z) (lp:LH) (b:C) (k:Ex->MSt->Option RV):Ex->MSt->Option RV:=fun e s=>match e with
 | .nrm=>b.run call lp s k
 | e=>k e s
def regK (k:Ex->MSt->Option RV):MSt->Option RV:=fun s=>k .nrm { s with next:=s.next + 1 }
noncomputable def opK (call:q1z) (lp:LH) (r:List OpC) (k:MSt->Option RV):MSt->Option RV:=fun s=>q4u call lp r s k
def callK (d:Option Nat) (nt:Nat) (k:MSt->Option RV):Slot->MSt->Option RV:=fun y s'=>k ((s'.leave nt).put d y)
def blkK (id:Nat) (k:Ex->MSt->Option RV):Ex->MSt->Option RV:=fun e s=>match e with
 | .exit j=>if j=id then k .nrm s else k (.exit j) s
 | e=>k e s
def condC (v:AV) (a b:Option RV):Option RV:=match v with
 | .bool t=>if t then a else b
 | _=>none
def guardC (v:AV) (w:Bool) (a b:Option MSt):Option MSt:=match v with
 | .bool t=>if t=w then a else b
 | .tup []=>b
 | _=>none
def guardK (v:AV) (w:Bool) (a b:Option RV):Option RV:=match v with
 | .bool t=>if t=w then a else b
 | .tup []=>b
 | _=>none
def fnC (v:AV) (h:Nat->List AV->Option RV):Option RV:=match v with
 | .fn f cs=>h f cs
 | _=>none
variable (b c:C) (s:MSt) (k:Ex->MSt->Option RV) (j id:Nat)
theorem seqK_nrm:seqK call lp b k .nrm s=b.run call lp s k:=(rfl)
theorem seqK_exit:seqK call lp b k (.exit j) s=k (.exit j) s:=(rfl)
theorem seqK_ret:seqK call lp b k .ret s=k .ret s:=(rfl)
theorem regK_at:regK k s=k .nrm ⟨s.env,s.mem,s.next + 1,s.obj,s.gh⟩:=(rfl)
theorem opK_at (r:List OpC) (k:MSt->Option RV):opK call lp r k s=q4u call lp r s k:=(rfl)
theorem callK_at (d:Option Nat) (nt:Nat) (k:MSt->Option RV) (y:Slot):callK d nt k y s=k ((s.leave nt).put d y):=(rfl)
theorem blkK_nrm:blkK id k .nrm s=k .nrm s:=(rfl)
theorem blkK_exit:blkK id k (.exit j) s=if j=id then k .nrm s else k (.exit j) s:=(rfl)
theorem blkK_ret:blkK id k .ret s=k .ret s:=(rfl)
theorem condC_true (x y:Option RV):condC (.bool true) x y=x:=(rfl)
theorem condC_false (x y:Option RV):condC (.bool false) x y=y:=(rfl)
theorem guardC_bool (t w:Bool) (x y:Option MSt):guardC (.bool t) w x y=if t=w then x else y:=(rfl)
theorem guardC_tup (w:Bool) (x y:Option MSt):guardC (.tup []) w x y=y:=(rfl)
theorem guardK_bool (t w:Bool) (x y:Option RV):guardK (.bool t) w x y=if t=w then x else y:=(rfl)
theorem guardK_tup (w:Bool) (x y:Option RV):guardK (.tup []) w x y=y:=(rfl)
theorem fnC_fn (f:Nat) (cs:List AV) (h:Nat->List AV->Option RV):fnC (.fn f cs) h=h f cs:=(rfl)
theorem r_skip:C.run call lp .skip s k=k .nrm s:=(rfl)
theorem r_seq:C.run call lp (.seq b c) s k=b.run call lp s (seqK call lp c k):=(rfl)
theorem r_reg (ops:List OpC):C.run call lp (.reg ops) s k=q4u call lp ops s (regK k):=(rfl)
theorem r_cond (x:Opd):C.run call lp (.cond x b c) s k=condC (x.get s) (b.run call lp s k) (c.run call lp s k):=(rfl)
theorem r_block:C.run call lp (.block id b) s k=b.run call lp s (blkK id k):=(rfl)
theorem r_loop:C.run call (evK T ext) (.loop b) s k=evL T ext b s k:=(rfl)
theorem r_exit:C.run call lp (.exit id) s k=k (.exit id) s:=(rfl)
theorem r_ret:C.run call lp .ret s k=k .ret s:=(rfl)
theorem a_nrm:q8r lp b k .nrm s=lp b s k:=(rfl)
theorem a_exit:q8r lp b k (.exit j) s=k (.exit j) s:=(rfl)
theorem a_ret:q8r lp b k .ret s=k .ret s:=(rfl)
theorem o_nil (k:MSt->Option RV):q4u call lp [] s k=k s:=(rfl)
theorem o_cons (o:OpC) (r:List OpC) (k:MSt->Option RV):q4u call lp (o :: r) s k=o.stepK call lp s (opK call lp r k):=(rfl)
theorem s_plain (d:Option Nat) (op:K):OpC.step call ⟨d,op,none⟩ s=(op.run call s).bind (OpC.eff ⟨d,op,none⟩ s):=(rfl)
theorem s_guard (d:Option Nat) (op:K) (t:Nat) (w:Bool):OpC.step call ⟨d,op,some (t,w)⟩ s=guardC (s.env t).v w ((op.run call s).bind (OpC.eff ⟨d,op,none⟩ s)) (some (s.put d ⟨.tup [],.no⟩)):=by
 simp only [OpC.step,guardC];generalize (s.env t).v=v;cases v with
 | tup l=>cases l <;> rfl
 | _=>rfl
theorem k_callh (d:Option Nat) (nt:Nat) (x:Opd) (xs:List Opd) (g:Option (Nat × Bool)) (k:MSt->Option RV):OpC.stepK call lp ⟨d,.callh nt x xs,g⟩ s k=q6C s d g (qay lp d nt x xs s k) k:=(rfl)
theorem hg_none (d:Option Nat) (a:Option RV) (k:MSt->Option RV):q6C s d none a k=a:=(rfl)
theorem hg_some (d:Option Nat) (t:Nat) (w:Bool) (a:Option RV) (k:MSt->Option RV):q6C s d (some (t,w)) a k=guardK (s.env t).v w a (k (s.put d ⟨.tup [],.no⟩)):=by
 simp only [q6C,guardK];generalize (s.env t).v=v;cases v with
 | tup l=>cases l <;> rfl
 | _=>rfl
theorem h_step (d:Option Nat) (nt:Nat) (x:Opd) (xs:List Opd) (k:MSt->Option RV):qay (evK T ext) d nt x xs s k=fnC (x.get s) fun f cs=>evH T ext f (q8T s xs++cs.map (⟨·,.no⟩)) (s.enter nt) (callK d nt k):=by
 simp only [qay,fnC];generalize x.get s=v;cases v <;> rfl
theorem k_mv (d:Option Nat) {x0} (g:Option (Nat × Bool)) (k:MSt->Option RV):OpC.stepK call lp ⟨d,.mv x0,g⟩ s k=(OpC.step call ⟨d,.mv x0,g⟩ s).bind k:=(rfl)
theorem k_pick (d:Option Nat) {x0} {x1} {x2} (g:Option (Nat × Bool)) (k:MSt->Option RV):OpC.stepK call lp ⟨d,.pick x0 x1 x2,g⟩ s k=(OpC.step call ⟨d,.pick x0 x1 x2,g⟩ s).bind k:=(rfl)
theorem k_alloc (d:Option Nat) {x0} (g:Option (Nat × Bool)) (k:MSt->Option RV):OpC.stepK call lp ⟨d,.alloc x0,g⟩ s k=(OpC.step call ⟨d,.alloc x0,g⟩ s).bind k:=(rfl)
theorem k_box (d:Option Nat) {x0} {x1} (g:Option (Nat × Bool)) (k:MSt->Option RV):OpC.stepK call lp ⟨d,.box x0 x1,g⟩ s k=(OpC.step call ⟨d,.box x0 x1,g⟩ s).bind k:=(rfl)
theorem k_build (d:Option Nat) {x0} {x1} (g:Option (Nat × Bool)) (k:MSt->Option RV):OpC.stepK call lp ⟨d,.build x0 x1,g⟩ s k=(OpC.step call ⟨d,.build x0 x1,g⟩ s).bind k:=(rfl)
theorem k_bsl (d:Option Nat) {x0} {x1} {x2} (g:Option (Nat × Bool)) (k:MSt->Option RV):OpC.stepK call lp ⟨d,.bsl x0 x1 x2,g⟩ s k=(OpC.step call ⟨d,.bsl x0 x1 x2,g⟩ s).bind k:=(rfl)
theorem k_bslr (d:Option Nat) {x0} {x1} {x2} {x3} (g:Option (Nat × Bool)) (k:MSt->Option RV):OpC.stepK call lp ⟨d,.bslr x0 x1 x2 x3,g⟩ s k=(OpC.step call ⟨d,.bslr x0 x1 x2 x3,g⟩ s).bind k:=(rfl)
theorem k_load (d:Option Nat) {x0} {x1} {x2} {x3} (g:Option (Nat × Bool)) (k:MSt->Option RV):OpC.stepK call lp ⟨d,.load x0 x1 x2 x3,g⟩ s k=(OpC.step call ⟨d,.load x0 x1 x2 x3,g⟩ s).bind k:=(rfl)
theorem k_store (d:Option Nat) {x0} {x1} {x2} {x3} {x4} (g:Option (Nat × Bool)) (k:MSt->Option RV):OpC.stepK call lp ⟨d,.store x0 x1 x2 x3 x4,g⟩ s k=(OpC.step call ⟨d,.store x0 x1 x2 x3 x4,g⟩ s).bind k:=(rfl)
theorem k_bin (d:Option Nat) {x0} {x1} {x2} {x3} (g:Option (Nat × Bool)) (k:MSt->Option RV):OpC.stepK call lp ⟨d,.bin x0 x1 x2 x3,g⟩ s k=(OpC.step call ⟨d,.bin x0 x1 x2 x3,g⟩ s).bind k:=(rfl)
theorem k_mm (d:Option Nat) {x0} {x1} {x2} (g:Option (Nat × Bool)) (k:MSt->Option RV):OpC.stepK call lp ⟨d,.mm x0 x1 x2,g⟩ s k=(OpC.step call ⟨d,.mm x0 x1 x2,g⟩ s).bind k:=(rfl)
theorem k_eqa (d:Option Nat) {x0} {x1} {x2} {x3} (g:Option (Nat × Bool)) (k:MSt->Option RV):OpC.stepK call lp ⟨d,.eqa x0 x1 x2 x3,g⟩ s k=(OpC.step call ⟨d,.eqa x0 x1 x2 x3,g⟩ s).bind k:=(rfl)
theorem k_eqn (d:Option Nat) {x0} {x1} {x2} {x3} (g:Option (Nat × Bool)) (k:MSt->Option RV):OpC.stepK call lp ⟨d,.eqn x0 x1 x2 x3,g⟩ s k=(OpC.step call ⟨d,.eqn x0 x1 x2 x3,g⟩ s).bind k:=(rfl)
theorem k_un (d:Option Nat) {x0} {x1} (g:Option (Nat × Bool)) (k:MSt->Option RV):OpC.stepK call lp ⟨d,.un x0 x1,g⟩ s k=(OpC.step call ⟨d,.un x0 x1,g⟩ s).bind k:=(rfl)
theorem k_conv (d:Option Nat) {x0} {x1} (g:Option (Nat × Bool)) (k:MSt->Option RV):OpC.stepK call lp ⟨d,.conv x0 x1,g⟩ s k=(OpC.step call ⟨d,.conv x0 x1,g⟩ s).bind k:=(rfl)
theorem k_rstr (d:Option Nat) {x0} (g:Option (Nat × Bool)) (k:MSt->Option RV):OpC.stepK call lp ⟨d,.rstr x0,g⟩ s k=(OpC.step call ⟨d,.rstr x0,g⟩ s).bind k:=(rfl)
theorem k_bstr (d:Option Nat) {x0} {x1} (g:Option (Nat × Bool)) (k:MSt->Option RV):OpC.stepK call lp ⟨d,.bstr x0 x1,g⟩ s k=(OpC.step call ⟨d,.bstr x0 x1,g⟩ s).bind k:=(rfl)
theorem k_mks (d:Option Nat) {x0} {x1} {x2} {x3} {x4} (g:Option (Nat × Bool)) (k:MSt->Option RV):OpC.stepK call lp ⟨d,.mks x0 x1 x2 x3 x4,g⟩ s k=(OpC.step call ⟨d,.mks x0 x1 x2 x3 x4,g⟩ s).bind k:=(rfl)
theorem k_slc (d:Option Nat) {x0} {x1} {x2} {x3} {x4} {x5} (g:Option (Nat × Bool)) (k:MSt->Option RV):OpC.stepK call lp ⟨d,.slc x0 x1 x2 x3 x4 x5,g⟩ s k=(OpC.step call ⟨d,.slc x0 x1 x2 x3 x4 x5,g⟩ s).bind k:=(rfl)
theorem k_aslc (d:Option Nat) {x0} {x1} {x2} {x3} {x4} {x5} (g:Option (Nat × Bool)) (k:MSt->Option RV):OpC.stepK call lp ⟨d,.aslc x0 x1 x2 x3 x4 x5,g⟩ s k=(OpC.step call ⟨d,.aslc x0 x1 x2 x3 x4 x5,g⟩ s).bind k:=(rfl)
theorem k_faddr (d:Option Nat) {x0} {x1} (g:Option (Nat × Bool)) (k:MSt->Option RV):OpC.stepK call lp ⟨d,.faddr x0 x1,g⟩ s k=(OpC.step call ⟨d,.faddr x0 x1,g⟩ s).bind k:=(rfl)
theorem k_field (d:Option Nat) {x0} {x1} {x2} {x3} (g:Option (Nat × Bool)) (k:MSt->Option RV):OpC.stepK call lp ⟨d,.field x0 x1 x2 x3,g⟩ s k=(OpC.step call ⟨d,.field x0 x1 x2 x3,g⟩ s).bind k:=(rfl)
theorem k_iaddr (d:Option Nat) {x0} {x1} {x2} (g:Option (Nat × Bool)) (k:MSt->Option RV):OpC.stepK call lp ⟨d,.iaddr x0 x1 x2,g⟩ s k=(OpC.step call ⟨d,.iaddr x0 x1 x2,g⟩ s).bind k:=(rfl)
theorem k_aaddr (d:Option Nat) {x0} {x1} {x2} {x3} (g:Option (Nat × Bool)) (k:MSt->Option RV):OpC.stepK call lp ⟨d,.aaddr x0 x1 x2 x3,g⟩ s k=(OpC.step call ⟨d,.aaddr x0 x1 x2 x3,g⟩ s).bind k:=(rfl)
theorem k_index (d:Option Nat) {x0} {x1} (g:Option (Nat × Bool)) (k:MSt->Option RV):OpC.stepK call lp ⟨d,.index x0 x1,g⟩ s k=(OpC.step call ⟨d,.index x0 x1,g⟩ s).bind k:=(rfl)
theorem k_ext (d:Option Nat) {x0} {x1} (g:Option (Nat × Bool)) (k:MSt->Option RV):OpC.stepK call lp ⟨d,.ext x0 x1,g⟩ s k=(OpC.step call ⟨d,.ext x0 x1,g⟩ s).bind k:=(rfl)
theorem k_call (d:Option Nat) {x0} {x1} {x2} (g:Option (Nat × Bool)) (k:MSt->Option RV):OpC.stepK call lp ⟨d,.call x0 x1 x2,g⟩ s k=(OpC.step call ⟨d,.call x0 x1 x2,g⟩ s).bind k:=(rfl)
theorem k_callf (d:Option Nat) {x0} {x1} {x2} {x3} (g:Option (Nat × Bool)) (k:MSt->Option RV):OpC.stepK call lp ⟨d,.callf x0 x1 x2 x3,g⟩ s k=(OpC.step call ⟨d,.callf x0 x1 x2 x3,g⟩ s).bind k:=(rfl)
theorem k_mkf (d:Option Nat) {x0} {x1} (g:Option (Nat × Bool)) (k:MSt->Option RV):OpC.stepK call lp ⟨d,.mkf x0 x1,g⟩ s k=(OpC.step call ⟨d,.mkf x0 x1,g⟩ s).bind k:=(rfl)
theorem k_callv (d:Option Nat) {x0} {x1} {x2} (g:Option (Nat × Bool)) (k:MSt->Option RV):OpC.stepK call lp ⟨d,.callv x0 x1 x2,g⟩ s k=(OpC.step call ⟨d,.callv x0 x1 x2,g⟩ s).bind k:=(rfl)
theorem k_callr (d:Option Nat) {x0} {x1} {x2} (g:Option (Nat × Bool)) (k:MSt->Option RV):OpC.stepK call lp ⟨d,.callr x0 x1 x2,g⟩ s k=(OpC.step call ⟨d,.callr x0 x1 x2,g⟩ s).bind k:=(rfl)
theorem k_len (d:Option Nat) {x0} {x1} (g:Option (Nat × Bool)) (k:MSt->Option RV):OpC.stepK call lp ⟨d,.len x0 x1,g⟩ s k=(OpC.step call ⟨d,.len x0 x1,g⟩ s).bind k:=(rfl)
theorem k_app (d:Option Nat) {x0} {x1} {x2} {x3} {x4} {x5} (g:Option (Nat × Bool)) (k:MSt->Option RV):OpC.stepK call lp ⟨d,.app x0 x1 x2 x3 x4 x5,g⟩ s k=(OpC.step call ⟨d,.app x0 x1 x2 x3 x4 x5,g⟩ s).bind k:=(rfl)
theorem k_appf (d:Option Nat) {x0} {x1} {x2} {x3} {x4} {x5} (g:Option (Nat × Bool)) (k:MSt->Option RV):OpC.stepK call lp ⟨d,.appf x0 x1 x2 x3 x4 x5,g⟩ s k=(OpC.step call ⟨d,.appf x0 x1 x2 x3 x4 x5,g⟩ s).bind k:=(rfl)
theorem k_appm (d:Option Nat) {x0} {x1} {x2} {x3} {x4} {x5} (g:Option (Nat × Bool)) (k:MSt->Option RV):OpC.stepK call lp ⟨d,.appm x0 x1 x2 x3 x4 x5,g⟩ s k=(OpC.step call ⟨d,.appm x0 x1 x2 x3 x4 x5,g⟩ s).bind k:=(rfl)
theorem k_appn (d:Option Nat) {x0} {x1} {x2} {x3} {x4} {x5} (g:Option (Nat × Bool)) (k:MSt->Option RV):OpC.stepK call lp ⟨d,.appn x0 x1 x2 x3 x4 x5,g⟩ s k=(OpC.step call ⟨d,.appn x0 x1 x2 x3 x4 x5,g⟩ s).bind k:=(rfl)
theorem k_mkm (d:Option Nat) (g:Option (Nat × Bool)) (k:MSt->Option RV):OpC.stepK call lp ⟨d,.mkm,g⟩ s k=(OpC.step call ⟨d,.mkm,g⟩ s).bind k:=(rfl)
theorem k_bad (d:Option Nat) (g:Option (Nat × Bool)) (k:MSt->Option RV):OpC.stepK call lp ⟨d,.bad,g⟩ s k=(OpC.step call ⟨d,.bad,g⟩ s).bind k:=(rfl)
theorem k_mkb (d:Option Nat) {T e:TypeId} (g:Option (Nat × Bool)) (k:MSt->Option RV):OpC.stepK call lp ⟨d,.mkb T e,g⟩ s k=(OpC.step call ⟨d,.mkb T e,g⟩ s).bind k:=(rfl)
theorem k_mget (d:Option Nat) {x0} {x1} {x2} {x3} {x4} (g:Option (Nat × Bool)) (k:MSt->Option RV):OpC.stepK call lp ⟨d,.mget x0 x1 x2 x3 x4,g⟩ s k=(OpC.step call ⟨d,.mget x0 x1 x2 x3 x4,g⟩ s).bind k:=(rfl)
theorem k_mset (d:Option Nat) {x0} {x1} {x2} {x3} (g:Option (Nat × Bool)) (k:MSt->Option RV):OpC.stepK call lp ⟨d,.mset x0 x1 x2 x3,g⟩ s k=(OpC.step call ⟨d,.mset x0 x1 x2 x3,g⟩ s).bind k:=(rfl)
theorem k_mlen (d:Option Nat) {x0} (g:Option (Nat × Bool)) (k:MSt->Option RV):OpC.stepK call lp ⟨d,.mlen x0,g⟩ s k=(OpC.step call ⟨d,.mlen x0,g⟩ s).bind k:=(rfl)
theorem k_rng (d:Option Nat) {x0} (g:Option (Nat × Bool)) (k:MSt->Option RV):OpC.stepK call lp ⟨d,.rng x0,g⟩ s k=(OpC.step call ⟨d,.rng x0,g⟩ s).bind k:=(rfl)
theorem k_slz (d:Option Nat) {x0} (g:Option (Nat × Bool)) (k:MSt->Option RV):OpC.stepK call lp ⟨d,.slz x0,g⟩ s k=(OpC.step call ⟨d,.slz x0,g⟩ s).bind k:=(rfl)
theorem k_ent (d:Option Nat) {x0} (g:Option (Nat × Bool)) (k:MSt->Option RV):OpC.stepK call lp ⟨d,.ent x0,g⟩ s k=(OpC.step call ⟨d,.ent x0,g⟩ s).bind k:=(rfl)
theorem k_nxt (d:Option Nat) {x0} (g:Option (Nat × Bool)) (k:MSt->Option RV):OpC.stepK call lp ⟨d,.nxt x0,g⟩ s k=q6C s d g (nstep d x0 s k) k:=(rfl)
theorem k_nilchk (d:Option Nat) {x0} (g:Option (Nat × Bool)) (k:MSt->Option RV):OpC.stepK call lp ⟨d,.nilchk x0,g⟩ s k=(OpC.step call ⟨d,.nilchk x0,g⟩ s).bind k:=(rfl)
theorem e_none (d:Option Nat) (op:K) (g:Option (Nat × Bool)) (x:Slot):OpC.eff ⟨d,op,g⟩ s (x,.none)=some (s.put d x):=(rfl)
theorem e_set (d:Option Nat) (op:K) (g:Option (Nat × Bool)) (x:Slot) (t n:Nat) (r:List Slot):OpC.eff ⟨d,op,g⟩ s (x,.set t n r)=some ((s.setRow t n r).put d x):=(rfl)
theorem e_newp (d:Nat) (op:K) (g:Option (Nat × Bool)) (t n o:Nat) (a:An) (r:List Slot):OpC.eff ⟨some d,op,g⟩ s (⟨.ptr t n o,a⟩,.new r)=some ((s.setRow d s.next r).put (some d) ⟨.ptr d s.next 0,.no⟩):=(rfl)
theorem e_newr (d:Nat) (op:K) (g:Option (Nat × Bool)) (t n z o l p:Nat) (a:An) (r:List Slot):OpC.eff ⟨some d,op,g⟩ s (⟨.ref t n z o l p,a⟩,.new r)=some ((s.setRow d s.next r).put (some d) ⟨.ref d s.next z o l p,.no⟩):=(rfl)
theorem e_app (d:Nat) (op:K) (g:Option (Nat × Bool)) (v:AV) (a:An) (kk j:Nat) (e:TypeId):OpC.eff ⟨some d,op,g⟩ s (⟨v,.own kk e⟩,.app a j)=some (((s.stripA a).strip d).put (some d) ⟨v,.own d e⟩):=(rfl)
theorem e_obj (d:Option Nat) (op:K) (g:Option (Nat × Bool)) (x:Slot) (t n:Nat) (S:AV):OpC.eff ⟨d,op,g⟩ s (x,.obj t n S)=some ((s.setObj t n S).put d x):=(rfl)
theorem e_mk (d:Nat) (op:K) (g:Option (Nat × Bool)) (x:Slot) (S:AV):OpC.eff ⟨some d,op,g⟩ s (x,.mk S)=some ((s.setObj d s.next S).put (some d) ⟨x.v.named d s.next,.no⟩):=(rfl)
theorem e_rn (d:Nat) (op:K) (g:Option (Nat × Bool)) (t n z o l p:Nat) (a:An) (q:Option (Nat × Nat)) (r:List Slot):OpC.eff ⟨some d,op,g⟩ s (⟨.ref t n z o l p,a⟩,.rn q r)=some (((s.killO q).setRow d s.next r).put (some d) ⟨.ref d s.next z o l p,.no⟩):=(rfl)
theorem e_ob2 (d:Nat) (op:K) (g:Option (Nat × Bool)) (t n z o l p:Nat) (a:An) (t' n':Nat) (S:AV) (r:List Slot):OpC.eff ⟨some d,op,g⟩ s (⟨.ref t n z o l p,a⟩,.ob2 t' n' S r)=some (((s.setObj t' n' S).setRow d s.next r).put (some d) ⟨.ref d s.next z o l p,.no⟩):=(rfl)
theorem run_cg {b:C} {s s':MSt} {k:Ex->MSt->Option RV} (h:s=s'):C.run call lp b s k=C.run call lp b s' k:=by rw [h]
theorem ops_cg {l:List OpC} {s s':MSt} {k:MSt->Option RV} (h:s=s'):q4u call lp l s k=q4u call lp l s' k:=by rw [h]
theorem stepK_cg {o:OpC} {s s':MSt} {k:MSt->Option RV} (h:s=s'):OpC.stepK call lp o s k=OpC.stepK call lp o s' k:=by rw [h]
theorem bind_cg {α β:Type} {a a':Option α} {f:α->Option β} (h:a=a'):a.bind f=a'.bind f:=by rw [h]
theorem condC_cg {v v':AV} {a b:Option RV} (h:v=v'):condC v a b=condC v' a b:=by rw [h]
theorem guardC_cg {v v':AV} {w:Bool} {a b:Option MSt} (h:v=v'):guardC v w a b=guardC v' w a b:=by rw [h]
theorem guardK_cg {v v':AV} {w:Bool} {a b:Option RV} (h:v=v'):guardK v w a b=guardK v' w a b:=by rw [h]
theorem fnC_cg {v v':AV} {g:Nat->List AV->Option RV} (h:v=v'):fnC v g=fnC v' g:=by rw [h]
theorem evL_cg {T:Nat->Option FnC} {ext:q1z} {b:C} {s s':MSt} {k:Ex->MSt->Option RV} (h:s=s'):evL T ext b s k=evL T ext b s' k:=by rw [h]
theorem evH_cg {T:Nat->Option FnC} {ext:q1z} {f:Nat} {xs xs':List Slot} {s s':MSt} {k:Slot->MSt->Option RV} (hx:xs=xs') (h:s=s'):evH T ext f xs s k=evH T ext f xs' s' k:=by rw [h,hx]
end
attribute [congr] run_cg ops_cg stepK_cg bind_cg condC_cg guardC_cg guardK_cg fnC_cg evL_cg evH_cg
attribute [simp] k_rng k_slz k_ent k_nxt k_bad k_mkb k_mv k_pick k_alloc k_box k_build k_bsl k_bslr k_load k_store k_bin k_mm k_eqa k_eqn k_un k_conv k_rstr k_bstr k_mks k_slc k_aslc k_faddr k_field k_iaddr k_aaddr k_index k_ext k_call k_callf k_mkf k_callv k_callr k_callh k_len k_app k_appf k_appm k_appn k_mkm k_mget k_mset k_mlen k_nilchk guardK_bool guardK_tup fnC_fn hg_none hg_some h_step opK_at callK_at undE_at rowE_at drop0M_at slotE_at q2P q7Y restE_at m_initH m_enter m_leave m_initR m_drop0
attribute [simp] q3X q0z setO_at stripE_at stripM_at Slot.strip_v Slot.strip_a Slot.strip_mk argE_at noM_at objE_at q0x q0B Slot.kill_v Slot.kill_a Slot.kill_mk
attribute [simp] e_ob2 frz_free frz_map AV.frz AV.frz0 kill_free kill_map AV.kill AV.kill0 m_kill m_kill0 e_rn m_init m_put m_put0 m_row m_obj m_strip m_stripA m_stripX An.strip e_none e_set e_newp e_newr e_app e_obj e_mk K.run Opd.get q0i AV.leaf AV.whole AV.cells binC mmC eqC natOf q17 q58 Cl.okPtr Cl.okMem fillC fin finV objAt q6k resC AV.free AV.free0 AV.back AV.backN AV.isObj AV.named pack q2M q4V q2v lendP AV.capOk lend q6h endC AV.elems Opd.an q1y elsOk_nil q9x elsOk_append q1B elsOk_take elsOk_drop take_map_len
attribute [simp ↓] bind_some2 seqK_nrm seqK_exit seqK_ret regK_at blkK_nrm blkK_exit blkK_ret condC_true condC_false guardC_bool guardC_tup r_skip r_seq r_reg r_cond r_block r_loop r_exit r_ret a_nrm a_exit a_ret o_nil o_cons s_plain s_guard
end
def q01:q1z:=fun f args S =>
 if f=275 then (match args,S with
  | [.ptr 0 0 0,.str s],some (.tup [.undef,.undef,.int .i64 287,.int .i64 5,.str a])=>if a.size + s.size<=140737488355328 then some (.tup [.int .i64 s.size,.undef],some (bldAV 287 5 (a++s))) else none
  | _,_=>none)
 else if f=276 then (match args,S with
  | [.ptr 0 0 0],some (.tup [.undef,.undef,.int .i64 287,.int .i64 5,.str a])=>some (.str a,some (bldAV 287 5 a))
  | _,_=>none)
 else none
theorem bldExt_ok {O:Objs} (f:FuncId) (args:List AV) (S:Option AV) (r:RV) (h:q01 f args S=some r):q1Y Tryz.prog O f args S r:=by
 unfold q01 at h;split at h
 ·rename_i e;subst e;split at h
  ·rename_i s a;split at h
   ·rename_i hl;injection h with h;subst h;exact bld_write a s hl
   ·cases h
  ·cases h
 ·split at h
  ·rename_i e;subst e;split at h
   ·rename_i a;injection h with h;subst h;exact bld_string a
   ·cases h
  ·cases h
structure Raw where
 id:Int
 data:ByteArray
 deriving DecidableEq
inductive Vl where
 | mk (kind:Int) (b:Bool) (i:Int) (s:ByteArray) (id:Int) (kn:Bool) (keys:List Vl) (xn:Bool) (items:List Vl) (rn:Bool) (rest:List Raw)
namespace Vl
def kind:Vl->Int | .mk k _ _ _ _ _ _ _ _ _ _=>k
def b:Vl->Bool | .mk _ b _ _ _ _ _ _ _ _ _=>b
def i:Vl->Int | .mk _ _ i _ _ _ _ _ _ _ _=>i
def s:Vl->ByteArray | .mk _ _ _ s _ _ _ _ _ _ _=>s
def id:Vl->Int | .mk _ _ _ _ d _ _ _ _ _ _=>d
def kn:Vl->Bool | .mk _ _ _ _ _ k _ _ _ _ _=>k
def keys:Vl->List Vl | .mk _ _ _ _ _ _ l _ _ _ _=>l
def xn:Vl->Bool | .mk _ _ _ _ _ _ _ x _ _ _=>x
def items:Vl->List Vl | .mk _ _ _ _ _ _ _ _ l _ _=>l
def rn:Vl->Bool | .mk _ _ _ _ _ _ _ _ _ r _=>r
def rest:Vl->List Raw | .mk _ _ _ _ _ _ _ _ _ _ l=>l
theorem keys_lt (v x:Vl) (h:x∈v.keys):SizeOf.sizeOf x<SizeOf.sizeOf v:=by
 cases v;have:=List.sizeOf_lt_of_mem h;simp only [keys] at this;simp only [mk.sizeOf_spec];omega
theorem items_lt (v x:Vl) (h:x∈v.items):SizeOf.sizeOf x<SizeOf.sizeOf v:=by
 cases v;have:=List.sizeOf_lt_of_mem h;simp only [items] at this;simp only [mk.sizeOf_spec];omega
end Vl
def rawC (r:Raw):List AV:=[.int .i64 r.id,.str r.data]
mutual
def valC:Vl->List AV
 | .mk k b i s d kn ks xn xs rn rs=>[.int .i64 k,.bool b,.int .i64 i,.str s,.int .i64 d,.sl kn (valsC ks),.sl xn (valsC xs),.sl rn (rs.map rawC)]
def valsC:List Vl->List (List AV)
 | []=>[]
 | v :: r=>valC v :: valsC r
end
theorem valsC_map:∀ l:List Vl,valsC l=l.map valC
 | []=>by rw [valsC]; rfl
 | v :: r=>by rw [valsC,valsC_map r]; rfl
theorem q03 (v:Vl):valC v=[.int .i64 v.kind,.bool v.b,.int .i64 v.i,.str v.s,.int .i64 v.id,.sl v.kn (v.keys.map valC),.sl v.xn (v.items.map valC),.sl v.rn (v.rest.map rawC)]:=by
 cases v;rw [valC,valsC_map,valsC_map];rfl
mutual
/-- lengths that occur -/
def Vl.ok:Vl->Prop
 | .mk _ _ _ s _ _ ks _ xs _ rs=>ks.length<=9223372036854775807/\xs.length<=9223372036854775807/\rs.length<=9223372036854775807/\s.size<=9223372036854775807/\Vl.oks ks/\Vl.oks xs
def Vl.oks:List Vl->Prop
 | []=>True
 | v :: r=>Vl.ok v/\Vl.oks r
end
theorem Vl.oks_iff:∀ l:List Vl,Vl.oks l ↔ ∀ v∈l,v.ok
 | []=>by simp [Vl.oks]
 | v :: r=>by simp [Vl.oks,Vl.oks_iff r]
theorem Vl.ok_def (v:Vl):v.ok ↔ v.keys.length<=9223372036854775807/\v.items.length<=9223372036854775807/\v.rest.length<=9223372036854775807/\v.s.size<=9223372036854775807/\(∀ x∈v.keys,x.ok)/\∀ x∈v.items,x.ok:=by
 cases v;rw [Vl.ok,Vl.oks_iff,Vl.oks_iff];rfl
def Vl.zero:Vl:=.mk 0 false 0 ⟨#[]⟩ 0 true [] true [] true []
structure Sym where
 id:Int
 name:ByteArray
 deriving DecidableEq
def symC (x:Sym):List AV:=[.int .i64 x.id,.str x.name]
structure Mem where
 id:Int
 name:ByteArray
 ty:Int
 crit:Bool
 has:Bool
 dflt:Vl
def memC (m:Mem):List AV:=[.int .i64 m.id,.str m.name,.int .i64 m.ty,.bool m.crit,.bool m.has,.int .i64 m.dflt.kind,.bool m.dflt.b,.int .i64 m.dflt.i,.str m.dflt.s,.int .i64 m.dflt.id,.sl m.dflt.kn (m.dflt.keys.map valC),.sl m.dflt.xn (m.dflt.items.map valC),.sl m.dflt.rn (m.dflt.rest.map rawC)]
structure Typ where
 kind:Int
 name:ByteArray
 low:Int
 high:Int
 max:Int
 sn:Bool
 syms:List Sym
 mn:Bool
 mems:List Mem
 key:Int
 elem:Int
 opn:Bool
def typC (t:Typ):List AV:=[.int .i64 t.kind,.str t.name,.int .i64 t.low,.int .i64 t.high,.int .i64 t.max,.sl t.sn (t.syms.map symC),.sl t.mn (t.mems.map memC),.int .i64 t.key,.int .i64 t.elem,.bool t.opn]
structure Sch where
 nl:Bool
 types:List Typ
def schC (s:Sch):List AV:=[.sl s.nl (s.types.map typC)]
def Mem.ok (m:Mem):Prop:=m.dflt.ok/\m.name.size<=9223372036854775807
def Typ.ok (t:Typ):Prop:=t.syms.length<=9223372036854775807/\t.mems.length<=9223372036854775807/\∀ m∈t.mems,m.ok
def Sch.ok (s:Sch):Prop:=s.types.length<=9223372036854775807/\∀ t∈s.types,t.ok
theorem q11 {i:Nat} (h:i<9223372036854775807):IntKind.i64.wrap ((i:Int) + 1)=((i + 1:Nat):Int):=by
 rw [IntWalk.i64_in _ (by omega)]; rfl
theorem els_sym (l:List Sym):q1f 2 (l.map symC)=true:=q1B _ _ _ fun _=>rfl
theorem els_mem (l:List Mem):q1f 13 (l.map memC)=true:=q1B _ _ _ fun _=>rfl
theorem q00 {f:Nat} {c:FnC} {args:List AV} {r:RV} (hT:allT f=some c) (hl:args.length=c.np) (h:c.code.run (evC allT q01) (evK allT q01) (MSt.init args none) (fin c none)=some r) (hm:q6H args=false:=by rfl):evC allT q01 f args none=some r:=evC_intro c hT hl h hm
abbrev evA (f:Nat) (args:List AV) (v:AV):Prop:=evC allT q01 f args none=some (v,none)
def isLet (x:Int):Bool:=decide (x=95)||(decide (97<=x)&&decide (x<=122))||(decide (65<=x)&&decide (x<=90))
def isDig (x:Int):Bool:=decide (48<=x)&&decide (x<=57)
def q3O (s:ByteArray):Nat->Nat->Bool
 | 0,_=>true
 | n + 1,i=>(match s[i]? with | some u=>isLet u.toNat||isDig u.toNat | none=>false)&&q3O s n (i + 1)
def q3E (s:ByteArray):Bool:=decide (s.size≠0)&&decide (s.size<=24)&&(match s[0]? with | some u=>isLet u.toNat | none=>false)&&q3O s s.size 0
theorem letter_ev (x:Int):evA 248 [.int .u8 x] (.bool (isLet x)):=by
 refine q00 (c:=q3H) rfl rfl ?_;unfold isLet;by_cases h1:x=95 <;> by_cases h2:97<=x <;> by_cases h3:65<=x <;> by_cases h4:x<=122 <;> by_cases h5:x<=90 <;> simp [q3H,-y0,anN,y3,h1,h2,h3,h4,h5]
theorem digit_ev (x:Int):evA 249 [.int .u8 x] (.bool (isDig x)):=by
 refine q00 (c:=q45) rfl rfl ?_;unfold isDig;by_cases h1:48<=x <;> simp [q45,-y0,anN,y3,h1]
theorem rletter_ev (x:Int):evA 224 [.int .u8 x] (.bool (isLet x)):=by
 refine q00 (c:=q4B) rfl rfl ?_;unfold isLet;by_cases h1:x=95 <;> by_cases h2:97<=x <;> by_cases h3:65<=x <;> by_cases h4:x<=122 <;> by_cases h5:x<=90 <;> simp [q4B,-y0,anN,y3,h1,h2,h3,h4,h5]
theorem rdigit_ev (x:Int):evA 225 [.int .u8 x] (.bool (isDig x)):=by
 refine q00 (c:=q5j) rfl rfl ?_;unfold isDig;by_cases h1:48<=x <;> simp [q5j,-y0,anN,y3,h1]
theorem q8U {s:ByteArray} {i:Nat} (h:i<s.size):∃ u,s[i]?=some u:=⟨s[i],getElem?_pos s i h⟩
theorem name_lp (s:ByteArray) (hs:s.size<=24) (r:RV) (k:Ex->MSt->Option RV) (hk:∀ s',q3O s s.size 0=true->k (.exit 0) s'=some r) (hr:∀ s':MSt,q3O s s.size 0=false->(s'.env 2).v=.bool false->k .ret s'=some r) :
  ∀ (n i:Nat),i + n=s.size->q3O s n i=q3O s s.size 0->∀ s':MSt,(s'.env 0).v=.str s->(s'.env 18).v=.int .i64 s.size->(s'.env 19).v=.int .i64 i->evL allT q01 q22 s' k=some r:=by
 intro n
 induction n with
 | zero =>
  intro i hi hf s' e0 e18 e19;have hlt:¬ ((i:Int)<s.size):=by omega
  refine q04 ?_;simp [q22,-y0,anN,y3,e0,e18,e19,hlt];exact hk _ (by rw [<- hf]; rfl)
 | succ n ih =>
  intro i hi hf s' e0 e18 e19;have hlt:(i:Int)<s.size:=by omega
  obtain ⟨u,hu⟩:=q8U (s:=s) (i:=i) (by omega);have hw:=q11 (i:=i) (by omega);have h1:=letter_ev u.toNat;have h2:=digit_ev u.toNat;simp only [q3O,hu] at hf;refine q04 ?_;cases b1:isLet u.toNat with
  | true =>
   simp only [b1] at h1 hf;simp [q22,-y0,anN,y3,e0,e18,e19,hlt,hu,h1,hw];refine ih (i + 1) (by omega) (by simpa using hf) _ ?_ ?_ ?_ <;> simp [*]
  | false =>
   cases b2:isDig u.toNat with
   | true =>
    simp only [b1,b2] at h1 h2 hf;simp [q22,-y0,anN,y3,e0,e18,e19,hlt,hu,h1,h2,hw];refine ih (i + 1) (by omega) (by simpa using hf) _ ?_ ?_ ?_ <;> simp [*]
   | false =>
    simp only [b1,b2] at h1 h2 hf;simp [q22,-y0,anN,y3,e0,e18,e19,hlt,hu,h1,h2,hw];refine hr _ (by simpa using hf.symm) ?_;simp
theorem name_ev (s:ByteArray):evA 234 [.str s] (.bool (q3E s)):=by
 refine q00 (c:=q2q) rfl rfl ?_;unfold q3E;by_cases h0:s=⟨#[]⟩
 ·subst h0;simp [q2q,-y0,anN,y3];exact fun h=>absurd rfl h
 ·have hz:s.size≠0:=fun h=>h0 (by
   obtain ⟨d⟩:=s;have h:d.size=0:=h;rw [Array.eq_empty_of_size_eq_zero h])
  by_cases h1:s.size<=24
  ·have h1':¬ ((24:Int)<s.size):=by omega
   obtain ⟨u,hu⟩:=q8U (s:=s) (i:=0) (by omega);have h2:=letter_ev u.toNat;cases b1:isLet u.toNat with
   | false =>
    simp only [b1] at h2;simp [q2q,-y0,anN,y3,h0,h1',hu,h2,b1]
   | true =>
    simp only [b1] at h2;simp [q2q,-y0,anN,y3,h0,h1',hu,h2,b1,hz,h1];refine name_lp s h1 _ _ (fun s' hf=>?main) (fun s' hf h2=>?main2) s.size 0 (by simp) rfl _ ?_ ?_ ?_
    case main=>simp [-y0,anN,y3,hf]
    case main2=>simp [-y0,anN,y3,hf,h2]
    all_goals simp
  ·have h1':(24:Int)<s.size:=by omega
   simp [q2q,-y0,anN,y3,h0,h1',h1]
theorem rname_lp (s:ByteArray) (hs:s.size<=24) (r:RV) (k:Ex->MSt->Option RV) (hk:∀ s',q3O s s.size 0=true->k (.exit 0) s'=some r) (hr:∀ s':MSt,q3O s s.size 0=false->(s'.env 2).v=.bool false->k .ret s'=some r) :
  ∀ (n i:Nat),i + n=s.size->q3O s n i=q3O s s.size 0->∀ s':MSt,(s'.env 0).v=.str s->(s'.env 3).v=.int .i64 i->evL allT q01 q23 s' k=some r:=by
 intro n
 induction n with
 | zero =>
  intro i hi hf s' e0 e3;have hlt:¬ ((i:Int)<s.size):=by omega
  refine q04 ?_;simp [q23,-y0,anN,y3,e0,e3,hlt];exact hk _ (by rw [<- hf]; rfl)
 | succ n ih =>
  intro i hi hf s' e0 e3;have hlt:(i:Int)<s.size:=by omega
  obtain ⟨u,hu⟩:=q8U (s:=s) (i:=i) (by omega);have hw:=q11 (i:=i) (by omega);have h1:=rletter_ev u.toNat;have h2:=rdigit_ev u.toNat;simp only [q3O,hu] at hf;refine q04 ?_;cases b1:isLet u.toNat with
  | true =>
   simp only [b1] at h1 hf;simp [q23,-y0,anN,y3,e0,e3,hlt,hu,h1,hw];refine ih (i + 1) (by omega) (by simpa using hf) _ ?_ ?_ <;> simp [*]
  | false =>
   cases b2:isDig u.toNat with
   | true =>
    simp only [b1,b2] at h1 h2 hf;simp [q23,-y0,anN,y3,e0,e3,hlt,hu,h1,h2,hw];refine ih (i + 1) (by omega) (by simpa using hf) _ ?_ ?_ <;> simp [*]
   | false =>
    simp only [b1,b2] at h1 h2 hf;simp [q23,-y0,anN,y3,e0,e3,hlt,hu,h1,h2,hw];refine hr _ (by simpa using hf.symm) ?_;simp
theorem rname_ev (s:ByteArray):evA 210 [.str s] (.bool (q3E s)):=by
 refine q00 (c:=q2r) rfl rfl ?_;unfold q3E;by_cases h0:s=⟨#[]⟩
 ·subst h0;simp [q2r,-y0,anN,y3];exact fun h=>absurd rfl h
 ·have hz:s.size≠0:=fun h=>h0 (by
   obtain ⟨d⟩:=s;have h:d.size=0:=h;rw [Array.eq_empty_of_size_eq_zero h])
  by_cases h1:s.size<=24
  ·have h1':¬ ((24:Int)<s.size):=by omega
   obtain ⟨u,hu⟩:=q8U (s:=s) (i:=0) (by omega);have h2:=rletter_ev u.toNat;cases b1:isLet u.toNat with
   | false =>
    simp only [b1] at h2;simp [q2r,-y0,anN,y3,h0,h1',hu,h2,b1]
   | true =>
    simp only [b1] at h2;simp [q2r,-y0,anN,y3,h0,h1',hu,h2,b1,hz,h1];refine rname_lp s h1 _ _ (fun s' hf=>?main) (fun s' hf h2=>?main2) s.size 0 (by simp) rfl _ ?_ ?_
    case main=>simp [-y0,anN,y3,hf]
    case main2=>simp [-y0,anN,y3,hf,h2]
    all_goals simp
  ·have h1':(24:Int)<s.size:=by omega
   simp [q2r,-y0,anN,y3,h0,h1',h1]
mutual
def Vl.same:Vl->Vl->Bool
 | .mk k b i s d _ ks _ xs _ rs,.mk k' b' i' s' d' _ ks' _ xs' _ rs'=>decide (k=k')&&(b == b')&&decide (i=i')&&decide (s=s')&&decide (d=d')&&decide (rs=rs')&&Vl.sames ks ks'&&Vl.sames xs xs'
def Vl.sames:List Vl->List Vl->Bool
 | [],[]=>true
 | v :: r,v' :: r'=>Vl.same v v'&&Vl.sames r r'
 | [],_ :: _=>false
 | _ :: _,[]=>false
end
theorem Vl.same_def (v w:Vl):v.same w=(decide (v.kind=w.kind)&&(v.b == w.b)&&decide (v.i=w.i)&&decide (v.s=w.s)&&decide (v.id=w.id)&&decide (v.rest=w.rest)&&Vl.sames v.keys w.keys&&Vl.sames v.items w.items):=by
 cases v; cases w; rw [Vl.same]; rfl
theorem Vl.sames_len:∀ l m:List Vl,l.length≠m.length->Vl.sames l m=false
 | [],[],h=>absurd rfl h
 | [],_ :: _,_=>by rw [Vl.sames]
 | _ :: _,[],_=>by rw [Vl.sames]
 | v :: r,w :: r',h=>by rw [Vl.sames,Vl.sames_len r r' (by simpa using h)]; simp
theorem raws_lp (rs qs:List Raw) (hl:rs.length<=9223372036854775807) (he:rs.length=qs.length) (b1 b2:Bool) (r:RV) (k:Ex->MSt->Option RV) (hk:∀ s',rs=qs->k (.exit 0) s'=some r) (hr:∀ s':MSt,rs≠qs->(s'.env 4).v=.bool false->k .ret s'=some r) :
  ∀ (n i:Nat),i + n=rs.length->(rs.drop i=qs.drop i ↔ rs=qs)->∀ s':MSt,(s'.env 0).v=.sl b1 (rs.map rawC)->(s'.env 1).v=.sl b2 (qs.map rawC)->(s'.env 12).v=.int .i64 rs.length->(s'.env 13).v=.int .i64 i->evL allT q01 q0O s' k=some r:=by
 intro n
 induction n with
 | zero =>
  intro i hi hf s' e0 e1 e12 e13;have hlt:¬ ((i:Int)<rs.length):=by omega
  refine q04 ?_;simp [q0O,-y0,anN,y3,e12,e13,hlt];exact hk _ (hf.1 (by rw [yg (by omega),yg (by omega)]))
 | succ n ih =>
  intro i hi hf s' e0 e1 e12 e13;have hlt:(i:Int)<rs.length:=by omega
  have hi1:i<rs.length:=by omega
  have hi2:i<qs.length:=by omega
  have hw:=q11 (i:=i) (by omega);have g1:(rs.map rawC)[i]?=some (rawC rs[i]):=by simp [hi1]
  have g2:(qs.map rawC)[i]?=some (rawC qs[i]):=by simp [hi2]
  rw [yc hi1,yc hi2] at hf;simp only [List.cons.injEq] at hf;generalize rs[i]=x at *
  generalize qs[i]=y at *
  obtain ⟨xi,xd⟩:=x;obtain ⟨yi,yd⟩:=y;simp only [rawC] at g1 g2;simp only [Raw.mk.injEq] at hf;refine q04 ?_;by_cases h1:xi=yi
  ·by_cases h2:xd=yd
   ·subst h1 h2;simp [q0O,-y0,anN,y3,e0,e1,e12,e13,hlt,g1,g2,eqC,hw];refine ih (i + 1) (by omega) (by simpa using hf) _ ?_ ?_ ?_ ?_ <;> simp [*]
   ·subst h1;simp [q0O,-y0,anN,y3,e0,e1,e12,e13,hlt,g1,g2,eqC,h2];exact hr _ (fun h=>h2 (hf.2 h).1.2) (by simp)
  ·simp [q0O,-y0,anN,y3,e0,e1,e12,e13,hlt,g1,g2,eqC,h1];exact hr _ (fun h=>h1 (hf.2 h).1.1) (by simp)
theorem raws_ev (rs qs:List Raw) (hl:rs.length<=9223372036854775807) (b1 b2:Bool):evA 196 [.sl b1 (rs.map rawC),.sl b2 (qs.map rawC)] (.bool (decide (rs=qs))):=by
 refine q00 (c:=q1A) rfl rfl ?_;by_cases he:rs.length=qs.length
 ·have he':(rs.length:Int)=qs.length:=by omega
  simp [q1A,-y0,anN,y3,he];refine raws_lp rs qs hl he b1 b2 _ _ (fun s' hf=>?main) (fun s' hf h4=>?main2) rs.length 0 (by simp) (by simp) _ ?_ ?_ ?_ ?_
  case main=>simp [-y0,anN,y3,hf]
  case main2=>simp [-y0,anN,y3,hf,h4]
  all_goals simp [he]
 ·have he':¬ (rs.length:Int)=qs.length:=by omega
  have hne:rs≠qs:=fun h=>he (by rw [h])
  simp [q1A,-y0,anN,y3,he',hne]
theorem eqf_lp (F:Nat) (l m:List Vl) (hl:l.length<=9223372036854775807) (he:l.length=m.length) (hF:∀ x∈l,∀ y∈m,evA F [.agg (valC x),.agg (valC y)] (.bool (x.same y))) (b1 b2:Bool) (r:RV) (k:Ex->MSt->Option RV) (hk:∀ s',Vl.sames l m=true->k (.exit 0) s'=some r) (hr:∀ s':MSt,Vl.sames l m=false->(s'.env 6).v=.bool false->k .ret s'=some r) :
  ∀ (n i:Nat),i + n=l.length->Vl.sames (l.drop i) (m.drop i)=Vl.sames l m->∀ s':MSt,(s'.env 1).v=.sl b2 (m.map valC)->(s'.env 2).v=.fn F []->(s'.env 15).v=.sl b1 (l.map valC)->(s'.env 16).v=.int .i64 l.length->(s'.env 17).v=.int .i64 i->evL allT q01 q0H s' k=some r:=by
 intro n
 induction n with
 | zero =>
  intro i hi hf s' e1 e2 e15 e16 e17;have hlt:¬ ((i:Int)<l.length):=by omega
  refine q04 ?_;simp [q0H,-y0,anN,y3,e16,e17,hlt];refine hk _ ?_;rw [<- hf,yg (by omega),yg (by omega),Vl.sames]
 | succ n ih =>
  intro i hi hf s' e1 e2 e15 e16 e17;have hlt:(i:Int)<l.length:=by omega
  have hi1:i<l.length:=by omega
  have hi2:i<m.length:=by omega
  have hw:=q11 (i:=i) (by omega);have g1:(l.map valC)[i]?=some (valC l[i]):=by simp [hi1]
  have g2:(m.map valC)[i]?=some (valC m[i]):=by simp [hi2]
  have hx:=hF l[i] (y8 _) m[i] (y8 _);rw [yc hi1,yc hi2,Vl.sames] at hf;generalize l[i]=x at *
  generalize m[i]=y at *
  simp only [evA,q03] at g1 g2 hx;refine q04 ?_;cases h1:x.same y with
  | true =>
   rw [h1] at hx hf;simp [q0H,-y0,anN,y3,e1,e2,e15,e16,e17,hlt,g1,g2,q4V,q2v,hx,hw];refine ih (i + 1) (by omega) (by simpa using hf) _ ?_ ?_ ?_ ?_ ?_ <;> simp [*]
  | false =>
   rw [h1] at hx hf;simp [q0H,-y0,anN,y3,e1,e2,e15,e16,e17,hlt,g1,g2,q4V,q2v,hx];exact hr _ (by simpa using hf.symm) (by simp)
theorem eqf_ev (F:Nat) (l m:List Vl) (hl:l.length<=9223372036854775807) (hF:∀ x∈l,∀ y∈m,evA F [.agg (valC x),.agg (valC y)] (.bool (x.same y))) (b1 b2:Bool):evA 197 [.sl b1 (l.map valC),.sl b2 (m.map valC),.fn F []] (.bool (Vl.sames l m)):=by
 refine q00 (c:=q0S) rfl rfl ?_;by_cases he:l.length=m.length
 ·simp [q0S,-y0,anN,y3,he];refine eqf_lp F l m hl he hF b1 b2 _ _ (fun s' hf=>?main) (fun s' hf h4=>?main2) l.length 0 (by simp) (by simp) _ ?_ ?_ ?_ ?_ ?_
  case main=>simp [-y0,anN,y3,hf]
  case main2=>simp [-y0,anN,y3,hf,h4]
  all_goals simp [he]
 ·have he':¬ (l.length:Int)=m.length:=by omega
  simp [q0S,-y0,anN,y3,he',Vl.sames_len l m he]
theorem same_ev:∀ (n:Nat) (v w:Vl),SizeOf.sizeOf v<n->v.ok->evA 255 [.agg (valC v),.agg (valC w)] (.bool (v.same w)):=by
 intro n
 induction n with
 | zero=>intro v w h; omega
 | succ n ih =>
  intro v w hn hv;rw [Vl.ok_def] at hv;obtain ⟨o1,o2,o3,o4,o5,o6⟩:=hv;have hr:=raws_ev v.rest w.rest o3 v.rn w.rn;have hks:=eqf_ev 255 v.keys w.keys o1 (fun x hx y _=>ih x y (by have:=Vl.keys_lt v x hx; omega) (o5 x hx)) v.kn w.kn;have hxs:=eqf_ev 255 v.items w.items o2 (fun x hx y _=>ih x y (by have:=Vl.items_lt v x hx; omega) (o6 x hx)) v.xn w.xn;simp only [evA] at hr hks hxs;refine q00 (c:=q1o) rfl rfl ?_;rw [q03,q03,Vl.same_def];by_cases h1:v.kind=w.kind
  ·by_cases h2:v.b=w.b
   ·by_cases h3:v.i=w.i
    ·by_cases h4:v.s=w.s
     ·by_cases h5:v.id=w.id
      ·by_cases h6:v.rest=w.rest
       ·cases h7:Vl.sames v.keys w.keys with
        | true=>rw [h7] at hks; simp [q1o,-y0,anN,y3,h1,h2,h3,h4,h5,h6 ▸ hr,h6,q4V,q2v,hks,hxs,h7]
        | false=>rw [h7] at hks; simp [q1o,-y0,anN,y3,h1,h2,h3,h4,h5,h6 ▸ hr,h6,q4V,q2v,hks,h7]
       ·simp [q1o,-y0,anN,y3,h1,h2,h3,h4,h5,hr,h6]
      ·simp [q1o,-y0,anN,y3,h1,h2,h3,h4,h5]
     ·simp [q1o,-y0,anN,y3,h1,h2,h3,h4]
    ·simp [q1o,-y0,anN,y3,h1,h2,h3]
   ·simp [q1o,-y0,anN,y3,h1,h2]
  ·simp [q1o,-y0,anN,y3,h1]
abbrev valRow (v:Vl):List Slot:=[⟨.int .i64 v.kind,.no⟩,⟨.bool v.b,.no⟩,⟨.int .i64 v.i,.no⟩,⟨.str v.s,.no⟩,⟨.int .i64 v.id,.no⟩,⟨.sl v.kn (v.keys.map valC),.no⟩,⟨.sl v.xn (v.items.map valC),.no⟩,⟨.sl v.rn (v.rest.map rawC),.no⟩]
theorem rrest_lp (v w:Vl) (hl:v.rest.length<=9223372036854775807) (he:v.rest.length=w.rest.length) (m:Nat) (r:RV) (k:Ex->MSt->Option RV)
  (hk:∀ s':MSt,v.rest=w.rest->(s'.env 2).v=.ptr 2 m 0->(s'.env 3).v=.ptr 3 m 0->s'.mem 2 m=some (valRow v)->s'.mem 3 m=some (valRow w)->k (.exit 0) s'=some r) (hr:∀ s':MSt,v.rest≠w.rest->(s'.env 4).v=.bool false->k .ret s'=some r) :
  ∀ (n i:Nat),i + n=v.rest.length->(v.rest.drop i=w.rest.drop i ↔ v.rest=w.rest)->∀ s':MSt,(s'.env 2).v=.ptr 2 m 0->(s'.env 3).v=.ptr 3 m 0->s'.mem 2 m=some (valRow v)->s'.mem 3 m=some (valRow w)->(s'.env 5).v=.int .i64 i->evL allT q01 q1v s' k=some r:=by
 intro n
 induction n with
 | zero =>
  intro i hi hf s' e2 e3 m2 m3 e5;have hlt:¬ ((i:Int)<v.rest.length):=by omega
  refine q04 ?_;simp [q1v,-y0,anN,y3,e2,e3,m2,m3,e5,hlt];exact hk _ (hf.1 (by rw [yg (by omega),yg (by omega)])) (by simp [e2]) (by simp [e3]) (by simp [m2]) (by simp [m3])
 | succ n ih =>
  intro i hi hf s' e2 e3 m2 m3 e5;have hlt:(i:Int)<v.rest.length:=by omega
  have hi1:i<v.rest.length:=by omega
  have hi2:i<w.rest.length:=by omega
  have hw:=q11 (i:=i) (by omega);have g1:(v.rest.map rawC)[i]?=some (rawC v.rest[i]):=by simp [hi1]
  have g2:(w.rest.map rawC)[i]?=some (rawC w.rest[i]):=by simp [hi2]
  rw [yc hi1,yc hi2] at hf;simp only [List.cons.injEq] at hf;generalize v.rest[i]=x at *
  generalize w.rest[i]=y at *
  obtain ⟨xi,xd⟩:=x;obtain ⟨yi,yd⟩:=y;simp only [rawC] at g1 g2;simp only [Raw.mk.injEq] at hf;refine q04 ?_;by_cases h1:xi=yi
  ·by_cases h2:xd=yd
   ·subst h1 h2;simp [q1v,-y0,anN,y3,e2,e3,m2,m3,e5,hlt,g1,g2,eqC,hw];refine ih (i + 1) (by omega) (by simpa using hf) _ ?_ ?_ ?_ ?_ ?_ <;> simp [*]
   ·subst h1;simp [q1v,-y0,anN,y3,e2,e3,m2,m3,e5,hlt,g1,g2,eqC,h2];exact hr _ (fun h=>h2 (hf.2 h).1.2) (by simp)
  ·simp [q1v,-y0,anN,y3,e2,e3,m2,m3,e5,hlt,g1,g2,eqC,h1];exact hr _ (fun h=>h1 (hf.2 h).1.1) (by simp)
theorem rsames_lp (l m:List Vl) (hl:l.length<=9223372036854775807) (he:l.length=m.length) (hF:∀ x∈l,∀ y∈m,evA 189 [.agg (valC x),.agg (valC y)] (.bool (x.same y))) (b1 b2:Bool) (r:RV) (k:Ex->MSt->Option RV) (hk:∀ s',Vl.sames l m=true->k (.exit 0) s'=some r) (hr:∀ s':MSt,Vl.sames l m=false->(s'.env 4).v=.bool false->k .ret s'=some r) :
  ∀ (n i:Nat),i + n=l.length->Vl.sames (l.drop i) (m.drop i)=Vl.sames l m->∀ s':MSt,(s'.env 0).v=.sl b1 (l.map valC)->(s'.env 1).v=.sl b2 (m.map valC)->(s'.env 5).v=.int .i64 i->evL allT q01 q1H s' k=some r:=by
 intro n
 induction n with
 | zero =>
  intro i hi hf s' e0 e1 e5;have hlt:¬ ((i:Int)<l.length):=by omega
  refine q04 ?_;simp [q1H,-y0,anN,y3,e0,e5,hlt];refine hk _ ?_;rw [<- hf,yg (by omega),yg (by omega),Vl.sames]
 | succ n ih =>
  intro i hi hf s' e0 e1 e5;have hlt:(i:Int)<l.length:=by omega
  have hi1:i<l.length:=by omega
  have hi2:i<m.length:=by omega
  have hw:=q11 (i:=i) (by omega);have g1:(l.map valC)[i]?=some (valC l[i]):=by simp [hi1]
  have g2:(m.map valC)[i]?=some (valC m[i]):=by simp [hi2]
  have hx:=hF l[i] (y8 _) m[i] (y8 _);rw [yc hi1,yc hi2,Vl.sames] at hf;generalize l[i]=x at *
  generalize m[i]=y at *
  simp only [evA,q03] at g1 g2 hx;refine q04 ?_;cases h1:x.same y with
  | true =>
   rw [h1] at hx hf;simp [q1H,-y0,anN,y3,e0,e1,e5,hlt,g1,g2,q4V,hx,hw];refine ih (i + 1) (by omega) (by simpa using hf) _ ?_ ?_ ?_ <;> simp [*]
  | false =>
   rw [h1] at hx hf;simp [q1H,-y0,anN,y3,e0,e1,e5,hlt,g1,g2,q4V,hx];exact hr _ (by simpa using hf.symm) (by simp)
theorem rsames_ev (l m:List Vl) (hl:l.length<=9223372036854775807) (hF:∀ x∈l,∀ y∈m,evA 189 [.agg (valC x),.agg (valC y)] (.bool (x.same y))) (b1 b2:Bool):evA 213 [.sl b1 (l.map valC),.sl b2 (m.map valC)] (.bool (Vl.sames l m)):=by
 refine q00 (c:=q2f) rfl rfl ?_;by_cases he:l.length=m.length
 ·simp [q2f,-y0,anN,y3,he];refine rsames_lp l m hl he hF b1 b2 _ _ (fun s' hf=>?main) (fun s' hf h4=>?main2) l.length 0 (by simp) (by simp) _ ?_ ?_ ?_
  case main=>simp [-y0,anN,y3,hf]
  case main2=>simp [-y0,anN,y3,hf,h4]
  all_goals simp [he]
 ·have he':¬ (l.length:Int)=m.length:=by omega
  simp [q2f,-y0,anN,y3,he',Vl.sames_len l m he]
theorem rsame_ev:∀ (n:Nat) (v w:Vl),SizeOf.sizeOf v<n->v.ok->evA 189 [.agg (valC v),.agg (valC w)] (.bool (v.same w)):=by
 intro n
 induction n with
 | zero=>intro v w h; omega
 | succ n ih =>
  intro v w hn hv;rw [Vl.ok_def] at hv;obtain ⟨o1,o2,o3,o4,o5,o6⟩:=hv;have hks:=rsames_ev v.keys w.keys o1 (fun x hx y _=>ih x y (by have:=Vl.keys_lt v x hx; omega) (o5 x hx)) v.kn w.kn;have hxs:=rsames_ev v.items w.items o2 (fun x hx y _=>ih x y (by have:=Vl.items_lt v x hx; omega) (o6 x hx)) v.xn w.xn;simp only [evA] at hks hxs;refine q00 (c:=q0M) rfl rfl ?_;rw [q03,q03,Vl.same_def];by_cases h1:v.kind=w.kind
  ·by_cases h2:v.b=w.b
   ·by_cases h3:v.i=w.i
    ·by_cases h4:v.s=w.s
     ·by_cases h5:v.id=w.id
      ·by_cases he:v.rest.length=w.rest.length
       ·simp [q0M,-y0,anN,y3,h1,h2,h3,h4,h5,he];refine rrest_lp v w o3 he 1 _ _ (fun s' h6 e2 e3 m2 m3=>?main) (fun s' h6 e4=>?main2) v.rest.length 0 (by simp) (by simp) _ ?_ ?_ ?_ ?_ ?_
        case main =>
         cases h7:Vl.sames v.keys w.keys with
         | true=>rw [h7] at hks; simp [-y0,anN,y3,e2,e3,m2,m3,q4V,hks,hxs,h6]
         | false=>rw [h7] at hks; simp [-y0,anN,y3,e2,e3,m2,m3,q4V,hks,h6]
        case main2=>simp [-y0,anN,y3,e4,h6]
        all_goals simp [h1,h2,h3,h4,h5]
       ·have he':¬ (v.rest.length:Int)=w.rest.length:=by omega
        have h6:¬ v.rest=w.rest:=fun h=>he (by rw [h])
        simp [q0M,-y0,anN,y3,h1,h2,h3,h4,h5,he',h6]
      ·simp [q0M,-y0,anN,y3,h1,h2,h3,h4,h5]
     ·simp [q0M,-y0,anN,y3,h1,h2,h3,h4]
    ·simp [q0M,-y0,anN,y3,h1,h2,h3]
   ·simp [q0M,-y0,anN,y3,h1,h2]
  ·simp [q0M,-y0,anN,y3,h1]
def Mem.same (m m':Mem):Bool:=decide (m.id=m'.id)&&decide (m.name=m'.name)&&decide (m.ty=m'.ty)&&(m.crit == m'.crit)&&(m.has == m'.has)&&m.dflt.same m'.dflt
def q0E:List Mem->List Mem->Bool
 | [],[]=>true
 | m :: r,m' :: r'=>m.same m'&&q0E r r'
 | [],_ :: _=>false
 | _ :: _,[]=>false
theorem q7N:∀ l m:List Mem,l.length≠m.length->q0E l m=false
 | [],[],h=>absurd rfl h
 | [],_ :: _,_=>rfl
 | _ :: _,[],_=>rfl
 | v :: r,w :: r',h=>by rw [q0E,q7N r r' (by simpa using h)]; simp
def Typ.same (t u:Typ):Bool:=decide (t.kind=u.kind)&&decide (t.name=u.name)&&decide (t.low=u.low)&&decide (t.high=u.high)&&decide (t.max=u.max)&&decide (t.key=u.key)&&decide (t.elem=u.elem)&&(t.opn == u.opn)&&decide (t.syms=u.syms)&&q0E t.mems u.mems
theorem msame_ev (m m':Mem) (hm:m.ok):evA 254 [.agg (memC m),.agg (memC m')] (.bool (m.same m')):=by
 have hs:=same_ev _ m.dflt m'.dflt (Nat.lt_succ_self _) hm.1;simp only [evA,q03] at hs;refine q00 (c:=q13) rfl rfl ?_;unfold Mem.same memC;by_cases h1:m.id=m'.id
 ·by_cases h2:m.name=m'.name
  ·by_cases h3:m.ty=m'.ty
   ·by_cases h4:m.crit=m'.crit
    ·by_cases h5:m.has=m'.has
     ·simp [q13,-y0,anN,y3,h1,h2,h3,h4,h5,hs]
     ·simp [q13,-y0,anN,y3,h1,h2,h3,h4,h5]
    ·simp [q13,-y0,anN,y3,h1,h2,h3,h4]
   ·simp [q13,-y0,anN,y3,h1,h2,h3]
  ·simp [q13,-y0,anN,y3,h1,h2]
 ·simp [q13,-y0,anN,y3,h1]
theorem rmsame_ev (m m':Mem) (hm:m.ok):evA 223 [.agg (memC m),.agg (memC m')] (.bool (m.same m')):=by
 have hs:=rsame_ev _ m.dflt m'.dflt (Nat.lt_succ_self _) hm.1;simp only [evA,q03] at hs;refine q00 (c:=q0R) rfl rfl ?_;unfold Mem.same memC;by_cases h1:m.id=m'.id
 ·by_cases h2:m.name=m'.name
  ·by_cases h3:m.ty=m'.ty
   ·by_cases h4:m.crit=m'.crit
    ·by_cases h5:m.has=m'.has
     ·simp [q0R,-y0,anN,y3,h1,h2,h3,h4,h5,hs]
     ·simp [q0R,-y0,anN,y3,h1,h2,h3,h4,h5]
    ·simp [q0R,-y0,anN,y3,h1,h2,h3,h4]
   ·simp [q0R,-y0,anN,y3,h1,h2,h3]
  ·simp [q0R,-y0,anN,y3,h1,h2]
 ·simp [q0R,-y0,anN,y3,h1]
theorem syms_lp (rs qs:List Sym) (hl:rs.length<=9223372036854775807) (he:rs.length=qs.length) (b1 b2:Bool) (r:RV) (k:Ex->MSt->Option RV) (hk:∀ s',rs=qs->k (.exit 0) s'=some r) (hr:∀ s':MSt,rs≠qs->(s'.env 4).v=.bool false->k .ret s'=some r) :
  ∀ (n i:Nat),i + n=rs.length->(rs.drop i=qs.drop i ↔ rs=qs)->∀ s':MSt,(s'.env 0).v=.sl b1 (rs.map symC)->(s'.env 1).v=.sl b2 (qs.map symC)->(s'.env 12).v=.int .i64 rs.length->(s'.env 13).v=.int .i64 i->evL allT q01 q0A s' k=some r:=by
 intro n
 induction n with
 | zero =>
  intro i hi hf s' e0 e1 e12 e13;have hlt:¬ ((i:Int)<rs.length):=by omega
  refine q04 ?_;simp [q0A,-y0,anN,y3,e12,e13,hlt];exact hk _ (hf.1 (by rw [yg (by omega),yg (by omega)]))
 | succ n ih =>
  intro i hi hf s' e0 e1 e12 e13;have hlt:(i:Int)<rs.length:=by omega
  have hi1:i<rs.length:=by omega
  have hi2:i<qs.length:=by omega
  have hw:=q11 (i:=i) (by omega);have g1:(rs.map symC)[i]?=some (symC rs[i]):=by simp [hi1]
  have g2:(qs.map symC)[i]?=some (symC qs[i]):=by simp [hi2]
  rw [yc hi1,yc hi2] at hf;simp only [List.cons.injEq] at hf;generalize rs[i]=x at *
  generalize qs[i]=y at *
  obtain ⟨xi,xd⟩:=x;obtain ⟨yi,yd⟩:=y;simp only [symC] at g1 g2;simp only [Sym.mk.injEq] at hf;refine q04 ?_;by_cases h1:xi=yi
  ·by_cases h2:xd=yd
   ·subst h1 h2;simp [q0A,-y0,anN,y3,e0,e1,e12,e13,hlt,g1,g2,eqC,hw];refine ih (i + 1) (by omega) (by simpa using hf) _ ?_ ?_ ?_ ?_ <;> simp [*]
   ·subst h1;simp [q0A,-y0,anN,y3,e0,e1,e12,e13,hlt,g1,g2,eqC,h2];exact hr _ (fun h=>h2 (hf.2 h).1.2) (by simp)
  ·simp [q0A,-y0,anN,y3,e0,e1,e12,e13,hlt,g1,g2,eqC,h1];exact hr _ (fun h=>h1 (hf.2 h).1.1) (by simp)
theorem syms_ev (rs qs:List Sym) (hl:rs.length<=9223372036854775807) (b1 b2:Bool):evA 252 [.sl b1 (rs.map symC),.sl b2 (qs.map symC)] (.bool (decide (rs=qs))):=by
 refine q00 (c:=q1a) rfl rfl ?_;by_cases he:rs.length=qs.length
 ·simp [q1a,-y0,anN,y3,he];refine syms_lp rs qs hl he b1 b2 _ _ (fun s' hf=>?main) (fun s' hf h4=>?main2) rs.length 0 (by simp) (by simp) _ ?_ ?_ ?_ ?_
  case main=>simp [-y0,anN,y3,hf]
  case main2=>simp [-y0,anN,y3,hf,h4]
  all_goals simp [he]
 ·have he':¬ (rs.length:Int)=qs.length:=by omega
  have hne:rs≠qs:=fun h=>he (by rw [h])
  simp [q1a,-y0,anN,y3,he',hne]
theorem eqm_lp (l m:List Mem) (hl:l.length<=9223372036854775807) (he:l.length=m.length) (hF:∀ x∈l,x.ok) (b1 b2:Bool) (r:RV) (k:Ex->MSt->Option RV) (hk:∀ s',q0E l m=true->k (.exit 0) s'=some r) (hr:∀ s':MSt,q0E l m=false->(s'.env 6).v=.bool false->k .ret s'=some r) :
  ∀ (n i:Nat),i + n=l.length->q0E (l.drop i) (m.drop i)=q0E l m->∀ s':MSt,(s'.env 1).v=.sl b2 (m.map memC)->(s'.env 2).v=.fn 254 []->(s'.env 15).v=.sl b1 (l.map memC)->(s'.env 16).v=.int .i64 l.length->(s'.env 17).v=.int .i64 i->evL allT q01 q0D s' k=some r:=by
 intro n
 induction n with
 | zero =>
  intro i hi hf s' e1 e2 e15 e16 e17;have hlt:¬ ((i:Int)<l.length):=by omega
  refine q04 ?_;simp [q0D,-y0,anN,y3,e16,e17,hlt];refine hk _ ?_;rw [<- hf,yg (by omega),yg (by omega),q0E]
 | succ n ih =>
  intro i hi hf s' e1 e2 e15 e16 e17;have hlt:(i:Int)<l.length:=by omega
  have hi1:i<l.length:=by omega
  have hi2:i<m.length:=by omega
  have hw:=q11 (i:=i) (by omega);have g1:(l.map memC)[i]?=some (memC l[i]):=by simp [hi1]
  have g2:(m.map memC)[i]?=some (memC m[i]):=by simp [hi2]
  have hx:=msame_ev l[i] m[i] (hF l[i] (y8 _));rw [yc hi1,yc hi2,q0E] at hf;generalize l[i]=x at *
  generalize m[i]=y at *
  simp only [evA,memC] at g1 g2 hx;refine q04 ?_;cases h1:x.same y with
  | true =>
   rw [h1] at hx hf;simp [q0D,-y0,anN,y3,e1,e2,e15,e16,e17,hlt,g1,g2,q4V,q2v,hx,hw];refine ih (i + 1) (by omega) (by simpa using hf) _ ?_ ?_ ?_ ?_ ?_ <;> simp [*]
  | false =>
   rw [h1] at hx hf;simp [q0D,-y0,anN,y3,e1,e2,e15,e16,e17,hlt,g1,g2,q4V,q2v,hx];exact hr _ (by simpa using hf.symm) (by simp)
theorem eqm_ev (l m:List Mem) (hl:l.length<=9223372036854775807) (hF:∀ x∈l,x.ok) (b1 b2:Bool):evA 253 [.sl b1 (l.map memC),.sl b2 (m.map memC),.fn 254 []] (.bool (q0E l m)):=by
 refine q00 (c:=q0J) rfl rfl ?_;by_cases he:l.length=m.length
 ·simp [q0J,-y0,anN,y3,he];refine eqm_lp l m hl he hF b1 b2 _ _ (fun s' hf=>?main) (fun s' hf h4=>?main2) l.length 0 (by simp) (by simp) _ ?_ ?_ ?_ ?_ ?_
  case main=>simp [-y0,anN,y3,hf]
  case main2=>simp [-y0,anN,y3,hf,h4]
  all_goals simp [he]
 ·have he':¬ (l.length:Int)=m.length:=by omega
  simp [q0J,-y0,anN,y3,he',q7N l m he]
theorem tsame_ev (t u:Typ) (ht:t.ok):evA 237 [.agg (typC t),.agg (typC u)] (.bool (t.same u)):=by
 have hs:=syms_ev t.syms u.syms ht.1 t.sn u.sn;have hm:=eqm_ev t.mems u.mems ht.2.1 ht.2.2 t.mn u.mn;simp only [evA] at hs hm;refine q00 (c:=q0N) rfl rfl ?_;unfold Typ.same typC;by_cases h1:t.kind=u.kind
 ·by_cases h2:t.name=u.name
  ·by_cases h3:t.low=u.low
   ·by_cases h4:t.high=u.high
    ·by_cases h5:t.max=u.max
     ·by_cases h6:t.key=u.key
      ·by_cases h7:t.elem=u.elem
       ·by_cases h8:t.opn=u.opn
        ·by_cases h9:t.syms=u.syms
         ·rw [decide_eq_true h9] at hs;simp [q0N,-y0,anN,y3,h1,h2,h3,h4,h5,h6,h7,h8,hs,h9 ▸ hs,h9,q4V,q2v,hm]
         ·rw [decide_eq_false h9] at hs;simp [q0N,-y0,anN,y3,h1,h2,h3,h4,h5,h6,h7,h8,hs,h9]
        ·simp [q0N,-y0,anN,y3,h1,h2,h3,h4,h5,h6,h7,h8]
       ·simp [q0N,-y0,anN,y3,h1,h2,h3,h4,h5,h6,h7]
      ·simp [q0N,-y0,anN,y3,h1,h2,h3,h4,h5,h6]
     ·simp [q0N,-y0,anN,y3,h1,h2,h3,h4,h5]
    ·simp [q0N,-y0,anN,y3,h1,h2,h3,h4]
   ·simp [q0N,-y0,anN,y3,h1,h2,h3]
  ·simp [q0N,-y0,anN,y3,h1,h2]
 ·simp [q0N,-y0,anN,y3,h1]
abbrev q0a (t:Typ):List Slot:=[⟨.int .i64 t.kind,.no⟩,⟨.str t.name,.no⟩,⟨.int .i64 t.low,.no⟩,⟨.int .i64 t.high,.no⟩,⟨.int .i64 t.max,.no⟩,⟨.sl t.sn (t.syms.map symC),.no⟩,⟨.sl t.mn (t.mems.map memC),.no⟩,⟨.int .i64 t.key,.no⟩,⟨.int .i64 t.elem,.no⟩,⟨.bool t.opn,.no⟩]
theorem rsyms_lp (v w:Typ) (hl:v.syms.length<=9223372036854775807) (he:v.syms.length=w.syms.length) (m:Nat) (r:RV) (k:Ex->MSt->Option RV)
  (hk:∀ s':MSt,v.syms=w.syms->(s'.env 2).v=.ptr 2 m 0->(s'.env 3).v=.ptr 3 m 0->s'.mem 2 m=some (q0a v)->s'.mem 3 m=some (q0a w)->k (.exit 0) s'=some r) (hr:∀ s':MSt,v.syms≠w.syms->(s'.env 4).v=.bool false->k .ret s'=some r) :
  ∀ (n i:Nat),i + n=v.syms.length->(v.syms.drop i=w.syms.drop i ↔ v.syms=w.syms)->∀ s':MSt,(s'.env 2).v=.ptr 2 m 0->(s'.env 3).v=.ptr 3 m 0->s'.mem 2 m=some (q0a v)->s'.mem 3 m=some (q0a w)->(s'.env 5).v=.int .i64 i->evL allT q01 q1C s' k=some r:=by
 intro n
 induction n with
 | zero =>
  intro i hi hf s' e2 e3 m2 m3 e5;have hlt:¬ ((i:Int)<v.syms.length):=by omega
  refine q04 ?_;simp [q1C,-y0,anN,y3,e2,e3,m2,m3,e5,hlt];exact hk _ (hf.1 (by rw [yg (by omega),yg (by omega)])) (by simp [e2]) (by simp [e3]) (by simp [m2]) (by simp [m3])
 | succ n ih =>
  intro i hi hf s' e2 e3 m2 m3 e5;have hlt:(i:Int)<v.syms.length:=by omega
  have hi1:i<v.syms.length:=by omega
  have hi2:i<w.syms.length:=by omega
  have hw:=q11 (i:=i) (by omega);have g1:(v.syms.map symC)[i]?=some (symC v.syms[i]):=by simp [hi1]
  have g2:(w.syms.map symC)[i]?=some (symC w.syms[i]):=by simp [hi2]
  rw [yc hi1,yc hi2] at hf;simp only [List.cons.injEq] at hf;generalize v.syms[i]=x at *
  generalize w.syms[i]=y at *
  obtain ⟨xi,xd⟩:=x;obtain ⟨yi,yd⟩:=y;simp only [symC] at g1 g2;simp only [Sym.mk.injEq] at hf;refine q04 ?_;by_cases h1:xi=yi
  ·by_cases h2:xd=yd
   ·subst h1 h2;simp [q1C,-y0,anN,y3,e2,e3,m2,m3,e5,hlt,g1,g2,eqC,hw];refine ih (i + 1) (by omega) (by simpa using hf) _ ?_ ?_ ?_ ?_ ?_ <;> simp [*]
   ·subst h1;simp [q1C,-y0,anN,y3,e2,e3,m2,m3,e5,hlt,g1,g2,eqC,h2];exact hr _ (fun h=>h2 (hf.2 h).1.2) (by simp)
  ·simp [q1C,-y0,anN,y3,e2,e3,m2,m3,e5,hlt,g1,g2,eqC,h1];exact hr _ (fun h=>h1 (hf.2 h).1.1) (by simp)
theorem rmems_lp (v w:Typ) (hl:v.mems.length<=9223372036854775807) (hF:∀ x∈v.mems,x.ok) (he:v.mems.length=w.mems.length) (m:Nat) (r:RV) (k:Ex->MSt->Option RV)
  (hk:∀ s':MSt,q0E v.mems w.mems=true->k (.exit 2) s'=some r) (hr:∀ s':MSt,q0E v.mems w.mems=false->(s'.env 4).v=.bool false->k .ret s'=some r) :
  ∀ (n i:Nat),i + n=v.mems.length->q0E (v.mems.drop i) (w.mems.drop i)=q0E v.mems w.mems->∀ s':MSt,(s'.env 2).v=.ptr 2 m 0->(s'.env 3).v=.ptr 3 m 0->s'.mem 2 m=some (q0a v)->s'.mem 3 m=some (q0a w)->(s'.env 6).v=.int .i64 i->evL allT q01 q28 s' k=some r:=by
 intro n
 induction n with
 | zero =>
  intro i hi hf s' e2 e3 m2 m3 e6;have hlt:¬ ((i:Int)<v.mems.length):=by omega
  refine q04 ?_;simp [q28,-y0,anN,y3,e2,e3,m2,m3,e6,hlt];refine hk _ ?_;rw [<- hf,yg (by omega),yg (by omega),q0E]
 | succ n ih =>
  intro i hi hf s' e2 e3 m2 m3 e6;have hlt:(i:Int)<v.mems.length:=by omega
  have hi1:i<v.mems.length:=by omega
  have hi2:i<w.mems.length:=by omega
  have hw:=q11 (i:=i) (by omega);have g1:(v.mems.map memC)[i]?=some (memC v.mems[i]):=by simp [hi1]
  have g2:(w.mems.map memC)[i]?=some (memC w.mems[i]):=by simp [hi2]
  have hx:=rmsame_ev v.mems[i] w.mems[i] (hF _ (y8 _));rw [yc hi1,yc hi2,q0E] at hf;generalize v.mems[i]=x at *
  generalize w.mems[i]=y at *
  simp only [evA,memC] at g1 g2 hx;refine q04 ?_;cases h1:x.same y with
  | true =>
   rw [h1] at hx hf;simp [q28,-y0,anN,y3,e2,e3,m2,m3,e6,hlt,g1,g2,q4V,hx,hw];refine ih (i + 1) (by omega) (by simpa using hf) _ ?_ ?_ ?_ ?_ ?_ <;> simp [*]
  | false =>
   rw [h1] at hx hf;simp [q28,-y0,anN,y3,e2,e3,m2,m3,e6,hlt,g1,g2,q4V,hx];exact hr _ (by simpa using hf.symm) (by simp)
theorem rtsame_ev (t u:Typ) (ht:t.ok):evA 208 [.agg (typC t),.agg (typC u)] (.bool (t.same u)):=by
 refine q00 (c:=q0t) rfl rfl ?_;unfold Typ.same typC;by_cases h1:t.kind=u.kind
 ·by_cases h2:t.name=u.name
  ·by_cases h3:t.low=u.low
   ·by_cases h4:t.high=u.high
    ·by_cases h5:t.max=u.max
     ·by_cases h6:t.key=u.key
      ·by_cases h7:t.elem=u.elem
       ·by_cases h8:t.opn=u.opn
        ·by_cases h9:t.syms.length=u.syms.length
         ·by_cases h10:t.mems.length=u.mems.length
          ·simp [q0t,-y0,anN,y3,h1,h2,h3,h4,h5,h6,h7,h8,h9,h10];refine rsyms_lp t u ht.1 h9 1 _ _ (fun s' h11 e2 e3 m2 m3=>?main) (fun s' h11 e4=>?main2) t.syms.length 0 (by simp) (by simp) _ ?_ ?_ ?_ ?_ ?_
           case main =>
            simp [-y0,anN,y3,h11];refine rmems_lp t u ht.2.1 ht.2.2 h10 1 _ _ (fun s' h12=>?a) (fun s' h12 e4=>?b) t.mems.length 0 (by simp) (by simp) _ ?_ ?_ ?_ ?_ ?_
            case a=>simp [-y0,anN,y3,h12]
            case b=>simp [-y0,anN,y3,h12,e4]
            all_goals simp [e2,e3,m2,m3]
           case main2=>simp [-y0,anN,y3,h11,e4]
           all_goals simp [h1,h2,h3,h4,h5,h6,h7,h8]
          ·have h10':¬ (t.mems.length:Int)=u.mems.length:=by omega
           simp [q0t,-y0,anN,y3,h1,h2,h3,h4,h5,h6,h7,h8,h9,h10',q7N _ _ h10]
         ·have h9':¬ (t.syms.length:Int)=u.syms.length:=by omega
          have h11:¬ t.syms=u.syms:=fun h=>h9 (by rw [h])
          simp [q0t,-y0,anN,y3,h1,h2,h3,h4,h5,h6,h7,h8,h9',h11]
        ·simp [q0t,-y0,anN,y3,h1,h2,h3,h4,h5,h6,h7,h8]
       ·simp [q0t,-y0,anN,y3,h1,h2,h3,h4,h5,h6,h7]
      ·simp [q0t,-y0,anN,y3,h1,h2,h3,h4,h5,h6]
     ·simp [q0t,-y0,anN,y3,h1,h2,h3,h4,h5]
    ·simp [q0t,-y0,anN,y3,h1,h2,h3,h4]
   ·simp [q0t,-y0,anN,y3,h1,h2,h3]
  ·simp [q0t,-y0,anN,y3,h1,h2]
 ·simp [q0t,-y0,anN,y3,h1]
theorem anN_t (a:An):anN true a=.ex:=rfl
theorem anN_f (a:An):anN false a=a:=rfl
theorem anN_ex (b:Bool):anN b .ex=.ex:=by cases b <;> rfl
attribute [simp] anN_t anN_f anN_ex
theorem q0f {b:C} {r:RV} (n:Nat) (I:Nat->MSt->Prop) (E:Ex->MSt->Prop)
  (step:∀ i,i<=n->∀ s k,I i s->(i<n->∀ s',I (i + 1) s'->evL allT q01 b s' k=some r)->(∀ e s',E e s'->k e s'=some r)->evL allT q01 b s k=some r)
  (s:MSt) (k:Ex->MSt->Option RV) (h:I 0 s) (hk:∀ e s',E e s'->k e s'=some r):evL allT q01 b s k=some r:=by
 have:∀ m i,i + m=n->∀ s,I i s->evL allT q01 b s k=some r:=by
  intro m
  induction m with
  | zero=>intro i hi s h; exact step i (by omega) s k h (fun hlt=>absurd hlt (by omega)) hk
  | succ m ih=>intro i hi s h; exact step i (by omega) s k h (fun _ s' h'=>ih (i + 1) (by omega) s' h') hk
 exact this n 0 (by omega) s h
instance memStr (s:ByteArray) (l:List ByteArray):Decidable (s∈l):=@List.instDecidableMemOfLawfulBEq _ instBEqOfDecidableEq _ s l
def hasStr (s:ByteArray) (l:List ByteArray):Bool:=decide (s∈l)
theorem qb3 {s:ByteArray} {l:List ByteArray} (h:s∈l):hasStr s l=true:=decide_eq_true h
theorem qb2 {s:ByteArray} {l:List ByteArray} (h:¬ s∈l):hasStr s l=false:=decide_eq_false h
def idOk (b n:Int):Bool:=decide (b<n)&&decide (1<=n)&&decide (n<=1000)
def q1W:Int->List ByteArray->List (Int × ByteArray)->Bool
 | _,_,[]=>true
 | b,seen,(n,s) :: r=>idOk b n&&!hasStr s seen&&q3E s&&q1W n (seen++[s]) r
def idC (x:Int × ByteArray):List AV:=[.int .i64 x.1]
def nmC (x:Int × ByteArray):List AV:=[.str x.2]
def q6N (s:ByteArray):List AV:=[.str s,.bool true]
theorem seen_get (s:ByteArray):∀ l:List ByteArray,q6F (l.map q6N) (.str s)=if s∈l then some (AV.bool true) else none
 | []=>rfl
 | x :: r=>by
  simp only [yk,q6N,q6F,keyEq];by_cases h:x=s
  ·simp [h]
  ·have h':¬ s=x:=fun e=>h e.symm
   have:=seen_get s r;simp [h,h',this]
theorem seen_set (s:ByteArray):∀ l:List ByteArray,¬ s∈l->q5Q (l.map q6N) (.str s) (.bool true)=(l++[s]).map q6N
 | [],_=>rfl
 | x :: r,hn=>by
  have h:¬ x=s:=fun e=>hn (by simp [e])
  have:=seen_set s r fun e=>hn (by simp [e])
  simp [q6N,q5Q,keyEq,h,this]
theorem seen_ok:∀ l:List ByteArray,q8l .none (l.map q6N)=true
 | []=>rfl
 | x :: r=>by
  have:=seen_ok r;simp only [q8l] at this;simp [q8l,q6N,q6E,AV.flat,AV.scal]
def q2H (l:List (Int × ByteArray)):Nat->Int
 | 0=>0
 | i + 1=>match l[i]? with
  | some x=>x.1
  | none=>0
theorem ids_ev (l:List (Int × ByteArray)) (hl:l.length<=9223372036854775807) (b1 b2:Bool):evA 250 [.sl b1 (l.map idC),.sl b2 (l.map nmC)] (.bool (q1W 0 [] l&&decide (l.length<=16))):=by
 refine q00 (c:=q6b) rfl rfl ?_;simp [q6b,-y0,-y5,-y4,y3];refine q0f l.length (fun i s=>(s.env 0).v=.sl b1 (l.map idC)/\(s.env 1).v=.sl b2 (l.map nmC)/\(s.env 5).v=.mp 8 2/\(s.env 9).v=.sl b1 (l.map idC)/\(s.env 10).v=.int .i64 l.length/\(s.env 11).v=.int .i64 i/\s.obj 8 2=some (q5P (((l.take i).map (·.2)).map q6N))/\q1W (q2H l i) ((l.take i).map (·.2)) (l.drop i)=q1W 0 [] l)
  (fun e s=>(e=.exit 0/\q1W 0 [] l=true/\(s.env 0).v=.sl b1 (l.map idC))\/(e=.ret/\q1W 0 [] l=false/\(s.env 4).v=.bool false)) (fun i hi s k h ih hk=>?_) _ _ ?_ (fun e s h=>?_)
 ·obtain ⟨e0,e1,e5,e9,e10,e11,o,hs⟩:=h;refine q04 ?_;by_cases hlt:i<l.length
  ·have hlt':(i:Int)<l.length:=by omega
   have g1:(l.map idC)[i]?=some (idC l[i]):=by simp [hlt]
   have g2:(l.map nmC)[i]?=some (nmC l[i]):=by simp [hlt]
   have hw:=q11 (i:=i) (by omega);have ht:l.take (i + 1)=l.take i++[l[i]]:=(yR hlt).symm;have hp:q2H l (i + 1)=l[i].1:=by simp [q2H,hlt]
   have hn:=name_ev l[i].2;rw [yc hlt,q1W] at hs;generalize hx:l[i]=x at *
   generalize hsn:(l.take i).map (·.2)=seen at *
   have hg:=seen_get x.2 seen;have hko:=seen_ok seen;simp only [idC,nmC] at g1 g2;have hprev:(0<(i:Int)->∃ p,(l.map idC)[i - 1]?=some [.int .i64 p]/\q2H l i=p):=fun h0=>by
    obtain ⟨j,rfl⟩:∃ j,i=j + 1:=⟨i - 1,by omega⟩;exact ⟨l[j].1,by simp [idC,show j<l.length from by omega],by simp [q2H,show j<l.length from by omega]⟩
   have fail:∀ s',(s'.env 4).v=.bool false->(idOk (q2H l i) x.1&&!hasStr x.2 seen&&q3E x.2)=false->k .ret s'=some (.bool (q1W 0 [] l&&decide (l.length<=16)),none):=fun s' h4 hf=>hk _ _ (.inr ⟨rfl,by rw [<- hs,hf]; rfl,h4⟩)
   obtain ⟨z,hz⟩:∃ z:Int,z=i:=⟨_,rfl⟩;have hz0:0<=z:=by omega
   have hzt:z.toNat=i:=by omega
   have hlz:z<l.length:=by omega
   have hwz:IntKind.i64.wrap (z + 1)=((i + 1:Nat):Int):=by rw [hz]; exact hw
   rw [<- hz] at e11;rw [<- hzt] at g1 g2;by_cases c1:x.1<1
   ·simp [q0G,-y0,-y5,-y4,y3,e0,e1,e5,e9,e10,e11,hlz,hz0,g1,c1];exact fail _ (by simp) (by simp [idOk,show ¬ 1<=x.1 from by omega])
   by_cases c2:1000<x.1
   ·simp [q0G,-y0,-y5,-y4,y3,e0,e1,e5,e9,e10,e11,hlz,hz0,g1,c1,c2];exact fail _ (by simp) (by simp [idOk,show ¬ x.1<=1000 from by omega])
   have rest:(¬ 0<z\/∃ y p,0<z/\IntKind.i64.wrap (z - 1)=y/\0<=y/\(l.map idC)[y.toNat]?=some [.int .i64 p]/\¬ x.1<=p)->q2H l i<x.1->q0G.run (evC allT q01) (evK allT q01) s (q8r (evL allT q01) q0G k)=some (.bool (q1W 0 [] l&&decide (l.length<=16)),none):=by
    intro h0 hlast;by_cases c5:x.2∈seen
    ·rw [if_pos c5] at hg;rcases h0 with c3 | ⟨y,p,c3,hy,hy0,hp2,hp3⟩
     ·simp [q0G,-y0,-y5,-y4,y3,e0,e1,e5,e9,e10,e11,hlz,hz0,g1,g2,c1,c2,c3,o,q5x,hko,q6E,AV.flat,AV.scal,hg];exact fail _ (by simp) (by simp [qb3 c5])
     ·simp [q0G,-y0,-y5,-y4,y3,e0,e1,e5,e9,e10,e11,hlz,hz0,g1,g2,c1,c2,c3,hy,hy0,hp2,hp3,o,q5x,hko,q6E,AV.flat,AV.scal,hg];exact fail _ (by simp) (by simp [qb3 c5])
    ·rw [if_neg c5] at hg;have hst:=seen_set x.2 seen c5;cases c6:q3E x.2 with
     | false =>
      rw [c6] at hn;rcases h0 with c3 | ⟨y,p,c3,hy,hy0,hp2,hp3⟩
      ·simp [q0G,-y0,-y5,-y4,y3,e0,e1,e5,e9,e10,e11,hlz,hz0,g1,g2,c1,c2,c3,o,q5x,hko,q6E,AV.flat,AV.scal,hg,hn];exact fail _ (by simp) (by simp [c6])
      ·simp [q0G,-y0,-y5,-y4,y3,e0,e1,e5,e9,e10,e11,hlz,hz0,g1,g2,c1,c2,c3,hy,hy0,hp2,hp3,o,q5x,hko,q6E,AV.flat,AV.scal,hg,hn];exact fail _ (by simp) (by simp [c6])
     | true =>
      rw [c6] at hn;have hs':q1W x.1 (seen++[x.2]) (l.drop (i + 1))=q1W 0 [] l:=by rw [<- hs]; simp [idOk,qb2 c5,c6,hlast,show 1<=x.1 from by omega,show x.1<=1000 from by omega]
      rcases h0 with c3 | ⟨y,p,c3,hy,hy0,hp2,hp3⟩
      ·simp [q0G,-y0,-y5,-y4,y3,e0,e1,e5,e9,e10,e11,hlz,hz0,g1,g2,c1,c2,c3,o,q5x,hko,q6E,AV.flat,AV.scal,hg,hn,hst,hwz];refine ih hlt _ ⟨?_,?_,?_,?_,?_,?_,?_,?_⟩ <;> simp [ht,hsn,hp,hs',e0,e1,e5,e9,e10]
      ·simp [q0G,-y0,-y5,-y4,y3,e0,e1,e5,e9,e10,e11,hlz,hz0,g1,g2,c1,c2,c3,hy,hy0,hp2,hp3,o,q5x,hko,q6E,AV.flat,AV.scal,hg,hn,hst,hwz];refine ih hlt _ ⟨?_,?_,?_,?_,?_,?_,?_,?_⟩ <;> simp [ht,hsn,hp,hs',e0,e1,e5,e9,e10]
   by_cases c3:0<(i:Int)
   ·obtain ⟨p,hp1,hp2⟩:=hprev c3;have c3z:0<z:=by omega
    have hwm:IntKind.i64.wrap (z - 1)=((i - 1:Nat):Int):=by rw [IntWalk.i64_in _ (by omega)]; omega
    obtain ⟨y,hy⟩:∃ y:Int,y=((i - 1:Nat):Int):=⟨_,rfl⟩;have hy0:0<=y:=by omega
    rw [<- hy] at hwm;rw [show i - 1=y.toNat from by omega] at hp1;by_cases c4:x.1<=p
    ·simp [q0G,-y0,-y5,-y4,y3,e0,e1,e5,e9,e10,e11,hlz,hz0,g1,c1,c2,c3z,hwm,hy0,hp1,c4];exact fail _ (by simp) (by simp [idOk,hp2,show ¬ p<x.1 from by omega])
    ·exact rest (.inr ⟨y,p,c3z,hwm,hy0,hp1,c4⟩) (by rw [hp2]; omega)
   ·have h0:i=0:=by omega
    subst h0;exact rest (.inl (by omega)) (by simp only [q2H]; omega)
  ·have hlt':¬ (i:Int)<l.length:=by omega
   simp [q0G,-y0,-y5,-y4,y3,e10,e11,hlt'];refine hk _ _ (.inl ⟨rfl,?_,by simp [e0]⟩);rw [<- hs,yg (by omega),q1W]
 ·simp [q5P,q2H]
 ·rcases h with ⟨rfl,h1,h2⟩ | ⟨rfl,h1,h2⟩ <;> simp [-y0,-y5,-y4,y3,h1,h2]
  omega
def symE (x:Sym):Int × ByteArray:=(x.id,x.name)
def memE (x:Mem):Int × ByteArray:=(x.id,x.name)
def q8m (l:List Sym):Bool:=decide (0<l.length)&&(q1W 0 [] (l.map symE)&&decide (l.length<=16))
theorem symbols_ev (l:List Sym) (hl:l.length<=8796093022206) (b:Bool):evA 235 [.sl b (l.map symC)] (.bool (q8m l)):=by
 refine q00 (c:=q3M) rfl rfl ?_;have hids:=fun b1 b2=>ids_ev (l.map symE) (by simp; omega) b1 b2
 simp only [evA] at hids;simp [q3M,-y0,-y5,-y4,y3];refine q0f l.length (fun i s=>(s.env 0).v=.sl b (l.map symC)/\(s.env 7).v=.sl b (l.map symC)/\(s.env 8).v=.int .i64 l.length/\(s.env 9).v=.int .i64 i/\(s.env 3).v=.sl (l.take i).isEmpty (((l.take i).map symE).map idC)/\(s.env 4).v=.sl (l.take i).isEmpty (((l.take i).map symE).map nmC)/\((s.env 3).a=.ex/\(s.env 4).a=.ex\/(l.take i).isEmpty=false/\(s.env 3).a=.own 17 3/\(s.env 4).a=.own 22 9))
  (fun e s=>e=.exit 0/\(s.env 0).v=.sl b (l.map symC)/\(s.env 3).v=.sl l.isEmpty ((l.map symE).map idC)/\(s.env 4).v=.sl l.isEmpty ((l.map symE).map nmC)) (fun i hi s k h ih hk=>?_) _ _ ?_ (fun e s h=>?_)
 ·obtain ⟨e0,e7,e8,e9,e3,e4,an⟩:=h;refine q04 ?_;by_cases hlt:i<l.length
  ·have hlt':(i:Int)<l.length:=by omega
   have g1:(l.map symC)[i]?=some (symC l[i]):=by simp [hlt]
   have hw:=q11 (i:=i) (by omega);have ht:l.take (i + 1)=l.take i++[l[i]]:=(yR hlt).symm;generalize l[i]=x at *
   simp only [symC] at g1;have hlen:(l.take i).length=i:=by simp; omega
   generalize l.take i=t at *
   have hr1:q10 8 (t.length + 1)=true:=by rw [q0l]; omega
   have hr2:q10 16 (t.length + 1)=true:=by rw [q0l]; omega
   have q1:q1f 1 ((t.map symE).map idC)=true:=q1B _ _ _ fun _=>rfl
   have q2:q1f 1 ((t.map symE).map nmC)=true:=q1B _ _ _ fun _=>rfl
   rcases an with ⟨a3,a4⟩ | ⟨a0,a3,a4⟩
   ·simp [q2L,-y0,-y5,-y4,y3,e0,e7,e8,e9,e3,e4,a3,a4,hlt',g1,hw,hr1,hr2,q1,q2];refine ih hlt _ ⟨?_,?_,?_,?_,?_,?_,?_⟩ <;> simp [ht,e0,e7,e8,idC,nmC,symE]
   ·simp [q2L,-y0,-y5,-y4,y3,e0,e7,e8,e9,e3,e4,a0,a3,a4,hlt',g1,hw,hr1,hr2,q1,q2];refine ih hlt _ ⟨?_,?_,?_,?_,?_,?_,?_⟩ <;> simp [ht,e0,e7,e8,idC,nmC,symE]
  ·have hlt':¬ (i:Int)<l.length:=by omega
   simp [q2L,-y0,-y5,-y4,y3,e8,e9,hlt'];rw [yO (by omega)] at e3 e4;exact hk _ _ ⟨rfl,by simp [e0],by simp [e3],by simp [e4]⟩
 ·simp
 ·obtain ⟨rfl,e0,e3,e4⟩:=h;unfold q8m;by_cases h0:0<l.length
  ·have h0':(0:Int)<l.length:=by omega
   simp [-y0,-y5,-y4,y3,e0,e3,e4,h0,h0',hids]
  ·have h0':¬ (0:Int)<l.length:=by omega
   simp [-y0,-y5,-y4,y3,e0,e3,e4,h0,h0']
theorem rid_ev (b n:Int):evA 226 [.int .i64 b,.int .i64 n] (.bool (idOk b n)):=by
 refine q00 (c:=q80) rfl rfl ?_;unfold idOk;by_cases h1:b<n <;> by_cases h2:1<=n <;> simp [q80,-y0,-y5,-y4,y3,h1,h2]
theorem rsymbols_ev (l:List Sym) (hl:l.length<=8796093022206) (b:Bool):evA 211 [.sl b (l.map symC)] (.bool (q8m l)):=by
 refine q00 (c:=q4c) rfl rfl ?_;simp [q4c,-y0,-y5,-y4,y3];have g0:∀ j,j<l.length->∃ x,l[j]?=some x:=fun j hj=>⟨l[j],by simp [hj]⟩
 refine q0f l.length (fun i s=>(s.env 0).v=.sl b (l.map symC)/\(s.env 3).v=.int .i64 (q2H (l.map symE) i)/\(s.env 4).v=.int .i64 i/\q1W (q2H (l.map symE) i) ((l.map symE).take i |>.map (·.2)) ((l.map symE).drop i)=q1W 0 [] (l.map symE))
  (fun e s=>(e=.exit 0/\q1W 0 [] (l.map symE)=true/\(s.env 0).v=.sl b (l.map symC))\/(e=.ret/\q1W 0 [] (l.map symE)=false/\(s.env 2).v=.bool false)) (fun i hi s k h ih hk=>?_) _ _ ?_ (fun e s h=>?_)
 ·obtain ⟨e0,e3,e4,hs⟩:=h;refine q04 ?_;by_cases hlt:i<l.length
  ·have hlt':(i:Int)<l.length:=by omega
   have g1:(l.map symC)[i]?=some (symC l[i]):=by simp [hlt]
   have hw:=q11 (i:=i) (by omega);have hlt2:i<(l.map symE).length:=by simpa using hlt
   have hp:q2H (l.map symE) (i + 1)=l[i].id:=by simp [q2H,hlt,symE]
   have hn:=rname_ev l[i].name;have hid:=rid_ev (q2H (l.map symE) i) l[i].id;have hge:(l.map symE)[i]=symE l[i]:=by simp
   have ht:((l.map symE).take (i + 1)).map (·.2)=((l.map symE).take i).map (·.2)++[l[i].name]:=by rw [<- yR hlt2,hge]; simp [symE]
   rw [yc hlt2,hge] at hs;obtain ⟨x,hx⟩:∃ x,x=l[i]:=⟨_,rfl⟩;rw [<- hx] at g1 hp hn hid ht hs;simp only [symE,q1W] at hs;have fail:∀ s',(s'.env 2).v=.bool false->(idOk (q2H (l.map symE) i) x.id&&!hasStr x.name (((l.map symE).take i).map (·.2))&&q3E x.name)=false->k .ret s'=some (.bool (q8m l),none):=fun s' h4 hf=>hk _ _ (.inr ⟨rfl,by rw [<- hs,hf]; rfl,h4⟩)
   simp only [evA] at hn hid;simp only [symC] at g1;cases c1:idOk (q2H (l.map symE) i) x.id with
   | false =>
    rw [c1] at hid;simp [q2h,-y0,-y5,-y4,y3,e0,e3,e4,hlt',g1,hid];exact fail _ (by simp) (by simp [c1])
   | true =>
    rw [c1] at hid;cases c2:q3E x.name with
    | false =>
     rw [c2] at hn;simp [q2h,-y0,-y5,-y4,y3,e0,e3,e4,hlt',g1,hid,hn];exact fail _ (by simp) (by simp [c2])
    | true =>
     rw [c2] at hn;simp [q2h,-y0,-y5,-y4,y3,e0,e3,e4,hlt',g1,hid,hn];have hseen:((l.map symE).take i).map (·.2)=(l.take i).map Sym.name:=by simp [<- List.map_take,symE,Function.comp_def]
     refine q0f i (fun j s=>(s.env 0).v=.sl b (l.map symC)/\(s.env 4).v=.int .i64 i/\(s.env 5).v=.int .i64 j/\¬ x.name∈(l.take j).map Sym.name)
      (fun e s=>(e=.exit 2/\¬ x.name∈(l.take i).map Sym.name/\(s.env 0).v=.sl b (l.map symC)/\(s.env 4).v=.int .i64 i)\/(e=.ret/\x.name∈(l.take i).map Sym.name/\(s.env 2).v=.bool false)) (fun j hj s k' h ih' hk'=>?_) _ _ ?_ (fun e s h=>?_)
     ·obtain ⟨e0,e4,e5,hm⟩:=h;refine q04 ?_;by_cases hji:j<i
      ·have hji':(j:Int)<i:=by omega
       have g2:(l.map symC)[j]?=some (symC l[j]):=by simp [show j<l.length from by omega]
       have hwj:=q11 (i:=j) (by omega);have htj:l.take (j + 1)=l.take j++[l[j]]:=(yR (by omega)).symm;simp only [symC] at g2;by_cases hname:l[j].name=x.name
       ·simp [q33,-y0,-y5,-y4,y3,e0,e4,e5,hji',g1,g2,hname];refine hk' _ _ (.inr ⟨rfl,?_,by simp⟩);rw [<- hname];exact List.mem_map_of_mem (List.mem_take_iff_getElem.2 ⟨j,by omega,rfl⟩)
       ·simp [q33,-y0,-y5,-y4,y3,e0,e4,e5,hji',g1,g2,hname,hwj];refine ih' hji _ ⟨?_,?_,?_,?_⟩
        ·simp [e0]
        ·simp [e4]
        ·simp
        ·rw [htj,List.map_append,yA];rintro (h | h)
         ·exact hm h
         ·simp at h; exact hname h.symm
      ·have hji':¬ (j:Int)<i:=by omega
       have hjj:j=i:=by omega
       simp [q33,-y0,-y5,-y4,y3,e4,e5,hji'];exact hk' _ _ (.inl ⟨rfl,hjj ▸ hm,by simp [e0],by simp [e4]⟩)
     ·simp [e0,e4]
     ·rcases h with ⟨rfl,h1,e0,e4⟩ | ⟨rfl,h1,e2⟩
      ·simp [-y0,-y5,-y4,y3,e0,e4,g1,hw];refine ih hlt _ ⟨?_,?_,?_,?_⟩
       ·simp [e0]
       ·simp [hp]
       ·simp
       ·rw [hp,ht,<- hs,c1,c2,hseen,qb2 h1];rfl
      ·simp [-y0,-y5,-y4,y3];exact fail _ e2 (by rw [hseen,qb3 h1]; simp)
  ·have hlt':¬ (i:Int)<l.length:=by omega
   simp [q2h,-y0,-y5,-y4,y3,e0,e4,hlt'];refine hk _ _ (.inl ⟨rfl,?_,by simp [e0]⟩);rw [<- hs,yg (by simp; omega),q1W]
 ·simp [q2H]
 ·unfold q8m;rcases h with ⟨rfl,h1,e0⟩ | ⟨rfl,h1,e2⟩
  ·by_cases h0:0<l.length
   ·have h0':(1:Int)<=l.length:=by omega
    simp [-y0,-y5,-y4,y3,e0,h0,h0',h1];omega
   ·have h0':¬ (1:Int)<=l.length:=by omega
    simp [-y0,-y5,-y4,y3,e0,h0,h0',h1]
  ·simp [-y0,-y5,-y4,y3,h1,e2]
theorem blank_ev (v:Vl) (hv:v.ok):evA 251 [.agg (valC v)] (.bool (v.same Vl.zero)):=by
 have h:=same_ev _ v Vl.zero (Nat.lt_succ_self _) hv;refine q00 (c:=q4N) rfl rfl ?_;simp only [evA,q03,Vl.zero,Vl.kind,Vl.b,Vl.i,Vl.s,Vl.id,Vl.kn,Vl.keys,Vl.xn,Vl.items,Vl.rn,Vl.rest,yn] at h ⊢;simp [q4N,-y0,-y5,-y4,y3,h]
theorem rblank_ev (v:Vl) (hv:v.ok):evA 189 [.agg (valC v),.agg [.int .i64 0,.bool false,.int .i64 0,.str ⟨#[]⟩,.int .i64 0,.sl true [],.sl true [],.sl true []]] (.bool (v.same Vl.zero)):=by
 have h:=rsame_ev _ v Vl.zero (Nat.lt_succ_self _) hv;simp only [evA,q03,Vl.zero,Vl.kind,Vl.b,Vl.i,Vl.s,Vl.id,Vl.kn,Vl.keys,Vl.xn,Vl.items,Vl.rn,Vl.rest,yn] at h ⊢;exact h
def q0P (rec:Bool) (m:Mem):Bool:=!(!rec&&(m.crit||m.has))&&!(m.crit&&m.has)&&(m.has||m.dflt.same Vl.zero)
def q5R (rec:Bool) (l:List Mem):Bool:=l.all (q0P rec)&&((rec||decide (0<l.length))&&(q1W 0 [] (l.map memE)&&decide (l.length<=16)))
theorem members_ev (t:Typ) (ht:t.ok) (hl:t.mems.length<=8796093022206) (hk:t.kind=5\/t.kind=6):evA 236 [.agg (typC t)] (.bool (q5R (decide (t.kind=5)) t.mems)):=by
 obtain ⟨rc,hrc⟩:∃ rc,rc=decide (t.kind=5):=⟨_,rfl⟩;have hk:t.kind=5/\rc=true\/t.kind=6/\rc=false:=by
  rcases hk with h | h
  ·exact .inl ⟨h,by rw [hrc,h]; rfl⟩
  ·exact .inr ⟨h,by rw [hrc,h]; rfl⟩
 rw [<- hrc];clear hrc;refine q00 (c:=q3L) rfl rfl ?_;have hids:=fun b1 b2=>ids_ev (t.mems.map memE) (by simp; omega) b1 b2
 simp only [evA] at hids;simp [q3L,-y0,-y5,-y4,y3,typC];refine q0f t.mems.length (fun i s=>(s.env 1).v=.ptr 1 1 0/\s.mem 1 1=some (q0a t)/\(s.env 8).v=.sl t.mn (t.mems.map memC)/\(s.env 9).v=.int .i64 t.mems.length/\(s.env 10).v=.int .i64 i/\(s.env 3).v=.sl (t.mems.take i).isEmpty (((t.mems.take i).map memE).map idC)/\(s.env 4).v=.sl (t.mems.take i).isEmpty (((t.mems.take i).map memE).map nmC)/\((t.mems.take i).isEmpty=(t.mems.take i).isEmpty/\(s.env 3).a=.ex/\(s.env 4).a=.ex\/(t.mems.take i).isEmpty=false/\(s.env 3).a=.own 18 3/\(s.env 4).a=.own 23 9)/\(t.mems.drop i).all (q0P rc)=t.mems.all (q0P rc))
  (fun e s=>(e=.exit 0/\t.mems.all (q0P rc)=true/\(s.env 1).v=.ptr 1 1 0/\s.mem 1 1=some (q0a t)/\(s.env 3).v=.sl t.mems.isEmpty ((t.mems.map memE).map idC)/\(s.env 4).v=.sl t.mems.isEmpty ((t.mems.map memE).map nmC))\/(e=.ret/\t.mems.all (q0P rc)=false/\(s.env 2).v=.bool false)) (fun i hi s k h ih hk'=>?_) _ _ ?_ (fun e s h=>?_)
 ·obtain ⟨e1,m1,e8,e9,e10,e3,e4,an,hs⟩:=h;refine q04 ?_;by_cases hlt:i<t.mems.length
  ·have hlt':(i:Int)<t.mems.length:=by omega
   have g1:(t.mems.map memC)[i]?=some (memC t.mems[i]):=by simp [hlt]
   have hw:=q11 (i:=i) (by omega);have htk:t.mems.take (i + 1)=t.mems.take i++[t.mems[i]]:=(yR hlt).symm;have hbl:=blank_ev t.mems[i].dflt (ht.2.2 _ (y8 _)).1;rw [yc hlt,List.all_cons] at hs;generalize t.mems[i]=x at *
   simp only [memC] at g1;simp only [evA,q03] at hbl;have hlen:(t.mems.take i).length=i:=by simp; omega
   generalize hq:t.mems.take i=q at *
   have hr1:q10 8 (q.length + 1)=true:=by rw [q0l]; omega
   have hr2:q10 16 (q.length + 1)=true:=by rw [q0l]; omega
   have q1:q1f 1 ((q.map memE).map idC)=true:=q1B _ _ _ fun _=>rfl
   have q2:q1f 1 ((q.map memE).map nmC)=true:=q1B _ _ _ fun _=>rfl
   have fail:∀ s',(s'.env 2).v=.bool false->q0P rc x=false->k .ret s'=some (.bool (q5R rc t.mems),none):=fun s' h4 hf=>hk' _ _ (.inr ⟨rfl,by rw [<- hs,hf]; rfl,h4⟩)
   have good:q0P rc x=true->(t.mems.drop (i + 1)).all (q0P rc)=t.mems.all (q0P rc):=fun h=>by rw [<- hs,h]; rfl
   generalize hB:t.mems.all (q0P rc)=B at *
   cases hg:q0P rc x with
   | false =>
    cases hz:x.dflt.same Vl.zero <;> rw [hz] at hbl <;> rcases hk with ⟨h5,rfl⟩ | ⟨h5,rfl⟩ <;> cases hc:x.crit <;> cases hh:x.has <;> first | (simp [q0P,hc,hh,hz] at hg; done) | skip
    all_goals rcases an with ⟨a0,a3,a4⟩ | ⟨a0,a3,a4⟩ <;>
     simp [q2K,-y0,-y5,-y4,y3,e1,m1,e8,e9,e10,e3,e4,a0,a3,a4,hlt',g1,hw,hr1,hr2,q1,q2,hc,hh,h5,hbl]
    all_goals exact fail _ (by simp) hg
   | true =>
    have good:=good hg;cases hz:x.dflt.same Vl.zero <;> rw [hz] at hbl <;> rcases hk with ⟨h5,rfl⟩ | ⟨h5,rfl⟩ <;> cases hc:x.crit <;> cases hh:x.has <;> first | (simp [q0P,hc,hh,hz] at hg; done) | skip
    all_goals rcases an with ⟨a0,a3,a4⟩ | ⟨a0,a3,a4⟩ <;>
     simp [q2K,-y0,-y5,-y4,y3,e1,m1,e8,e9,e10,e3,e4,a0,a3,a4,hlt',g1,hw,hr1,hr2,q1,q2,hc,hh,h5,hbl]
    all_goals refine ih hlt _ ⟨?_,?_,?_,?_,?_,?_,?_,?_,good⟩
    all_goals simp [htk,e1,m1,e8,e9,idC,nmC,memE,An.strip]
  ·have hlt':¬ (i:Int)<t.mems.length:=by omega
   simp [q2K,-y0,-y5,-y4,y3,e9,e10,hlt'];rw [yO (by omega)] at e3 e4;rw [yg (by omega)] at hs;exact hk' _ _ (.inl ⟨rfl,hs.symm,by simp [e1],by simp [m1],by simp [e3],by simp [e4]⟩)
 ·simp
 ·unfold q5R;rcases h with ⟨rfl,h1,e1,m1,e3,e4⟩ | ⟨rfl,h1,e2⟩
  ·rw [h1];rcases hk with ⟨h5,rfl⟩ | ⟨h5,rfl⟩
   ·simp [-y0,-y5,-y4,y3,e1,m1,e3,e4,h5,hids]
   ·by_cases h0:0<t.mems.length
    ·have h0':(0:Int)<t.mems.length:=by omega
     simp [-y0,-y5,-y4,y3,e1,m1,e3,e4,h5,h0,h0',hids]
    ·have h0':¬ (0:Int)<t.mems.length:=by omega
     simp [-y0,-y5,-y4,y3,e1,m1,e3,e4,h5,h0,h0']
  ·simp [-y0,-y5,-y4,y3,h1,e2]
theorem rmembers_ev (l:List Mem) (hl:l.length<=8796093022206) (hok:∀ m∈l,m.ok) (b rec:Bool):evA 212 [.sl b (l.map memC),.bool rec] (.bool (q5R rec l)):=by
  refine q00 (c:=q4a) rfl rfl ?_;simp [q4a,-y0,-y5,-y4,y3];refine q0f l.length (fun i s=>(s.env 0).v=.sl b (l.map memC)/\(s.env 1).v=.bool rec/\(s.env 5).v=.int .i64 (q2H (l.map memE) i)/\(s.env 6).v=.int .i64 i/\(q1W (q2H (l.map memE) i) ((l.map memE).take i |>.map (·.2)) ((l.map memE).drop i)&&(l.drop i).all (q0P rec))=(q1W 0 [] (l.map memE)&&l.all (q0P rec)))
    (fun e s=>(e=.exit 0/\(q1W 0 [] (l.map memE)&&l.all (q0P rec))=true/\(s.env 0).v=.sl b (l.map memC)/\(s.env 1).v=.bool rec)\/(e=.ret/\(q1W 0 [] (l.map memE)&&l.all (q0P rec))=false/\(s.env 4).v=.bool false)) (fun i hi s k h ih hk=>?_) _ _ ?_ (fun e s h=>?_)
  · obtain ⟨e0,e1,e5,e6,hs⟩:=h
    refine q04 ?_;by_cases hlt:i<l.length
    · have hlt':(i:Int)<l.length:=by omega
      have g1:(l.map memC)[i]?=some (memC l[i]):=by simp [hlt]
      have hw:=q11 (i:=i) (by omega);have hlt2:i<(l.map memE).length:=by simpa using hlt
      have hp:q2H (l.map memE) (i + 1)=l[i].id:=by simp [q2H,hlt,memE]
      have hn:=rname_ev l[i].name;have hid:=rid_ev (q2H (l.map memE) i) l[i].id;have hbl:=rblank_ev l[i].dflt (hok _ (y8 _)).1;have hge:(l.map memE)[i]=memE l[i]:=by simp
      have ht:((l.map memE).take (i + 1)).map (·.2)=((l.map memE).take i).map (·.2)++[l[i].name]:=by rw [<- yR hlt2,hge]; simp [memE]
      rw [yc hlt2,hge,yc hlt,List.all_cons] at hs;obtain ⟨x,hx⟩:∃ x,x=l[i]:=⟨_,rfl⟩;rw [<- hx] at g1 hp hn hid ht hs hbl;simp only [q1W] at hs;have hs2:((idOk (q2H (l.map memE) i) x.id&&!hasStr x.name (((l.map memE).take i).map (·.2))&&q3E x.name&&q0P rec x)&&(q1W x.id (((l.map memE).take i).map (·.2)++[x.name]) ((l.map memE).drop (i + 1))&&(l.drop (i + 1)).all (q0P rec)))=(q1W 0 [] (l.map memE)&&l.all (q0P rec)):=by
        rw [<- hs];simp only [memE,Bool.and_assoc];congr 1;congr 1;congr 1;rw [<- Bool.and_assoc,<- Bool.and_assoc,Bool.and_comm (q0P rec x)]
      clear hs;have fail:∀ s',(s'.env 4).v=.bool false->(idOk (q2H (l.map memE) i) x.id&&!hasStr x.name (((l.map memE).take i).map (·.2))&&q3E x.name&&q0P rec x)=false->k .ret s'=some (.bool (q5R rec l),none):=fun s' h4 hf=>hk _ _ (.inr ⟨rfl,by rw [<- hs2,hf]; rfl,h4⟩)
      simp only [evA,q03] at hn hid hbl;simp only [memC] at g1;cases c1:idOk (q2H (l.map memE) i) x.id with
      | false =>
        rw [c1] at hid;simp [q1N,-y0,-y5,-y4,y3,e0,e1,e5,e6,hlt',g1,hid];exact fail _ (by simp) (by simp [c1])
      | true =>
        rw [c1] at hid;cases c2:q3E x.name with
        | false =>
          rw [c2] at hn;simp [q1N,-y0,-y5,-y4,y3,e0,e1,e5,e6,hlt',g1,hid,hn];exact fail _ (by simp) (by simp [c2])
        | true =>
          rw [c2] at hn;have hseen:((l.map memE).take i).map (·.2)=(l.take i).map Mem.name:=by simp [<- List.map_take,memE,Function.comp_def]
          have inner:∀ s:MSt,q0P rec x=true->(s.env 0).v=.sl b (l.map memC)->(s.env 1).v=.bool rec->(s.env 6).v=.int .i64 i->(s.env 8).v=.int .i64 0->∀ p,(s.env 7).v=.ptr 7 p 0->s.mem 7 p=some ((memC x).map (⟨·,.no⟩)) →
              ∀ k2:Ex->MSt->Option RV,(∀ s',(s'.env 4).v=.bool false->k2 .ret s'=k .ret s')->(∀ s',(s'.env 0).v=.sl b (l.map memC)->(s'.env 1).v=.bool rec->(s'.env 6).v=.int .i64 i->(s'.env 7).v=.ptr 7 p 0->s'.mem 7 p=some ((memC x).map (⟨·,.no⟩))->¬ x.name∈(l.take i).map Mem.name->k2 (.exit 2) s'=some (.bool (q5R rec l),none)) →
              evL allT q01 q2g s k2=some (.bool (q5R rec l),none):=by
            intro s hgood e0 e1 e6 e8 p e7 m7 k2 hk2 hk3;refine q0f i (fun j s=>(s.env 0).v=.sl b (l.map memC)/\(s.env 1).v=.bool rec/\(s.env 6).v=.int .i64 i/\(s.env 7).v=.ptr 7 p 0/\s.mem 7 p=some ((memC x).map (⟨·,.no⟩))/\(s.env 8).v=.int .i64 j/\¬ x.name∈(l.take j).map Mem.name)
              (fun e s=>(e=.exit 2/\¬ x.name∈(l.take i).map Mem.name/\(s.env 0).v=.sl b (l.map memC)/\(s.env 1).v=.bool rec/\(s.env 6).v=.int .i64 i/\(s.env 7).v=.ptr 7 p 0/\s.mem 7 p=some ((memC x).map (⟨·,.no⟩)))\/(e=.ret/\x.name∈(l.take i).map Mem.name/\(s.env 4).v=.bool false)) (fun j hj s k' h ih' hk'=>?_) _ _ ?_ (fun e s h=>?_)
            · obtain ⟨e0,e1,e6,e7,m7,e8,hm⟩:=h
              refine q04 ?_;by_cases hji:j<i
              · have hji':(j:Int)<i:=by omega
                have g2:(l.map memC)[j]?=some (memC l[j]):=by simp [show j<l.length from by omega]
                have hwj:=q11 (i:=j) (by omega);have htj:l.take (j + 1)=l.take j++[l[j]]:=(yR (by omega)).symm;simp only [memC,yk,yn] at g2 m7;by_cases hname:l[j].name=x.name
                · simp [q2g,-y0,-y5,-y4,y3,e0,e1,e6,e7,m7,e8,hji',g1,g2,hname]
                  refine hk' _ _ (.inr ⟨rfl,?_,by simp⟩);rw [<- hname];exact List.mem_map_of_mem (List.mem_take_iff_getElem.2 ⟨j,by omega,rfl⟩)
                · simp [q2g,-y0,-y5,-y4,y3,e0,e1,e6,e7,m7,e8,hji',g1,g2,hname,hwj]
                  refine ih' hji _ ⟨?_,?_,?_,?_,?_,?_,?_⟩
                  · simp [e0]
                  · simp [e1]
                  · simp [e6]
                  · simp [e7]
                  · simp [m7,memC]
                  · simp
                  · rw [htj,List.map_append,yA]
                    rintro (h | h)
                    · exact hm h
                    · simp at h; exact hname h.symm
              · have hji':¬ (j:Int)<i:=by omega
                have hjj:j=i:=by omega
                simp [q2g,-y0,-y5,-y4,y3,e6,e8,hji'];exact hk' _ _ (.inl ⟨rfl,hjj ▸ hm,by simp [e0],by simp [e1],by simp [e6],by simp [e7],by simp [m7]⟩)
            · simp [e0,e1,e6,e7,e8,m7]
            · rcases h with ⟨rfl,h1,e0,e1,e6,e7,m7⟩ | ⟨rfl,h1,e4⟩
              · exact hk3 s e0 e1 e6 e7 m7 h1
              · rw [hk2 _ e4]
                exact fail _ e4 (by rw [hseen,qb3 h1]; simp)
          have next:∀ s',(s'.env 0).v=.sl b (l.map memC)->(s'.env 1).v=.bool rec->(s'.env 5).v=.int .i64 x.id->(s'.env 6).v=.int .i64 ((i + 1:Nat):Int)->q0P rec x=true->¬ x.name∈(l.take i).map Mem.name->evL allT q01 q1N s' k=some (.bool (q5R rec l),none):=fun s' f0 f1 f5 f6 hg hnm=>ih hlt _ ⟨f0,f1,by rw [hp]; exact f5,f6,by rw [hp,ht,<- hs2,c1,c2,hg,hseen,qb2 hnm]; rfl⟩
          cases hz:x.dflt.same Vl.zero <;> rw [hz] at hbl <;> cases rec <;> cases hc:x.crit <;> cases hh:x.has <;>
            simp [q1N,-y0,-y5,-y4,y3,e0,e1,e5,e6,hlt',g1,hid,hn,hc,hh,hbl] <;>
            first
            | exact fail _ (by simp) (by simp [q0P,hc,hh,hz])
            | (refine inner _ (by simp [q0P,hc,hh,hz]) ?_ ?_ ?_ ?_ (s.next + 1) ?_ ?_ _ ?_ ?_
               · simp [e0]
               · simp [e1]
               · simp [e6]
               · simp
               · simp
               · simp [memC,hc,hh]
               · intro s' _; rfl
               · intro s' f0 f1 f6 f7 fm hnm
                 simp only [memC,yk,yn] at fm;simp [-y0,-y5,-y4,y3,f0,f1,f6,f7,fm,hw];refine next _ ?_ ?_ ?_ ?_ (by simp [q0P,hc,hh,hz]) hnm <;> simp [f0,f1])
    · have hlt':¬ (i:Int)<l.length:=by omega
      simp [q1N,-y0,-y5,-y4,y3,e0,e6,hlt'];refine hk _ _ (.inl ⟨rfl,?_,by simp [e0],by simp [e1]⟩);rw [<- hs,yg (by simp; omega),yg (by omega),q1W];rfl
  · simp [q2H]
  · unfold q5R
    rcases h with ⟨rfl,h1,e0,e1⟩ | ⟨rfl,h1,e2⟩
    · rw [yb] at h1
      rw [h1.1,h1.2];by_cases h16:l.length<=16
      · have h16':(l.length:Int)<=16:=by omega
        cases rec
        · by_cases h0:0<l.length
          · have h0':(1:Int)<=l.length:=by omega
            simp [-y0,-y5,-y4,y3,e0,e1,h0,h0',h16,h16']
          · have h0':¬ (1:Int)<=l.length:=by omega
            simp [-y0,-y5,-y4,y3,e0,e1,h0,h0',h16,h16']
        · simp [-y0,-y5,-y4,y3,e0,e1,h16,h16']
      · have h16':¬ (l.length:Int)<=16:=by omega
        simp [-y0,-y5,-y4,y3,e0,e1,h16,h16']
    · have:(l.all (q0P rec)&&((rec||decide (0<l.length))&&(q1W 0 [] (l.map memE)&&decide (l.length<=16))))=false:=by
        rw [Bool.and_eq_false_iff] at h1;rcases h1 with h1 | h1 <;> simp [h1]
      rw [this];simp [-y0,-y5,-y4,y3,e2]
mutual
theorem Vl.same_refl:∀ v:Vl,v.same v=true
 | .mk k b i s d kn ks xn xs rn rs=>by rw [Vl.same]; simp [Vl.sames_refl ks,Vl.sames_refl xs]
theorem Vl.sames_refl:∀ l:List Vl,Vl.sames l l=true
 | []=>by rw [Vl.sames]
 | v :: r=>by rw [Vl.sames]; simp [Vl.same_refl v,Vl.sames_refl r]
end
theorem Mem.same_refl (m:Mem):m.same m=true:=by simp [Mem.same,Vl.same_refl]
theorem q9a:∀ l:List Mem,q0E l l=true
 | []=>rfl
 | m :: r=>by simp [q0E,Mem.same_refl,q9a r]
def q1M:Typ:=⟨0,⟨#[]⟩,0,0,0,true,[],true,[],0,0,false⟩
def Typ.left (t:Typ):Typ :=
 if t.kind=1 then { t with kind:=0 }
 else if t.kind=2 then { t with kind:=0,low:=0,high:=0 }
 else if t.kind=3 then { t with kind:=0,max:=0 }
 else if t.kind=4 then { t with kind:=0,name:=⟨#[]⟩,sn:=true,syms:=[],opn:=false }
 else if t.kind=5 then { t with kind:=0,name:=⟨#[]⟩,mn:=true,mems:=[] }
 else if t.kind=6 then { t with kind:=0,name:=⟨#[]⟩,mn:=true,mems:=[],opn:=false }
 else if t.kind=7 then { t with kind:=0,max:=0,elem:=0 }
 else if t.kind=8 then { t with kind:=0,max:=0,elem:=0,key:=0 }
 else { t with kind:=0,elem:=0 }
def q6O (t:Typ):Bool :=
 if t.kind=2 then decide (t.low<=t.high)
 else if t.kind=3 then decide (0<=t.max)&&decide (t.max<=200)
 else if t.kind=4 then q3E t.name&&q8m t.syms
 else if t.kind=5 then q3E t.name&&q5R true t.mems
 else if t.kind=6 then q3E t.name&&q5R false t.mems
 else if t.kind=7\/t.kind=8 then decide (0<=t.max)&&decide (t.max<=50)
 else true
def q0Q (t:Typ):Bool:=decide (1<=t.kind/\t.kind<=9)&&(q6O t&&t.left.same q1M)
def Typ.fine (t:Typ):Prop:=t.ok/\t.syms.length<=8796093022206/\t.mems.length<=8796093022206
theorem ok_of {t u:Typ} (h:t.ok) (h1:u.syms=t.syms\/u.syms=[]) (h2:u.mems=t.mems\/u.mems=[]):u.ok:=by
 refine ⟨?_,?_,?_⟩
 ·rcases h1 with h1 | h1
  ·rw [h1]; exact h.1
  ·rw [h1]; simp
 ·rcases h2 with h2 | h2
  ·rw [h2]; exact h.2.1
  ·rw [h2]; simp
 ·rcases h2 with h2 | h2
  ·rw [h2]; exact h.2.2
  ·rw [h2]; simp
theorem left_ok {t:Typ} (h:t.ok):t.left.ok:=by
 unfold Typ.left;by_cases h1:t.kind=1
 ·rw [if_pos h1]; exact ok_of h (.inl rfl) (.inl rfl)
 by_cases h2:t.kind=2
 ·rw [if_neg h1,if_pos h2]; exact ok_of h (.inl rfl) (.inl rfl)
 by_cases h3:t.kind=3
 ·rw [if_neg h1,if_neg h2,if_pos h3]; exact ok_of h (.inl rfl) (.inl rfl)
 by_cases h4:t.kind=4
 ·rw [if_neg h1,if_neg h2,if_neg h3,if_pos h4]; exact ok_of h (.inr rfl) (.inl rfl)
 by_cases h5:t.kind=5
 ·rw [if_neg h1,if_neg h2,if_neg h3,if_neg h4,if_pos h5]; exact ok_of h (.inl rfl) (.inr rfl)
 by_cases h6:t.kind=6
 ·rw [if_neg h1,if_neg h2,if_neg h3,if_neg h4,if_neg h5,if_pos h6]; exact ok_of h (.inl rfl) (.inr rfl)
 rw [if_neg h1,if_neg h2,if_neg h3,if_neg h4,if_neg h5,if_neg h6];by_cases h7:t.kind=7
 ·rw [if_pos h7]; exact ok_of h (.inl rfl) (.inl rfl)
 by_cases h8:t.kind=8
 ·rw [if_neg h7,if_pos h8]; exact ok_of h (.inl rfl) (.inl rfl)
 rw [if_neg h7,if_neg h8]; exact ok_of h (.inl rfl) (.inl rfl)
theorem kinds (k:Int):k=1\/k=2\/k=3\/k=4\/k=5\/k=6\/k=7\/k=8\/k=9\/¬ (1<=k/\k<=9):=by omega
def Typ.plain (t:Typ):Typ :=
 if t.kind=1 then { q1M with kind:=t.kind }
 else if t.kind=2 then { q1M with kind:=t.kind,low:=t.low,high:=t.high }
 else if t.kind=3 then { q1M with kind:=t.kind,max:=t.max }
 else if t.kind=4 then { q1M with kind:=t.kind,name:=t.name,sn:=t.sn,syms:=t.syms,opn:=t.opn }
 else if t.kind=5 then { q1M with kind:=t.kind,name:=t.name,mn:=t.mn,mems:=t.mems }
 else if t.kind=6 then { q1M with kind:=t.kind,name:=t.name,mn:=t.mn,mems:=t.mems,opn:=t.opn }
 else if t.kind=7 then { q1M with kind:=t.kind,max:=t.max,elem:=t.elem }
 else if t.kind=8 then { q1M with kind:=t.kind,max:=t.max,elem:=t.elem,key:=t.key }
 else { q1M with kind:=t.kind,elem:=t.elem }
theorem plain_same (t:Typ):t.same t.plain=t.left.same q1M:=by
 unfold Typ.plain Typ.left
 repeat' split
 all_goals simp [Typ.same,q1M,q9a,q0E, *]
theorem q5y (t:Typ):evA 209 [.agg (typC t)] (.agg (typC t.plain)):=by
 refine q00 (c:=q4b) rfl rfl ?_;unfold Typ.plain;rcases kinds t.kind with h | h | h | h | h | h | h | h | h | h
 case inr.inr.inr.inr.inr.inr.inr.inr.inr =>
  have q:∀ n:Int,1<=n->n<=9->¬ t.kind=n:=fun n h1 h2 e=>h ⟨by omega,by omega⟩
  simp [q4b,-y0,-y5,-y4,y3,typC,q,q1M]
 all_goals simp [q4b,-y0,-y5,-y4,y3,typC,h,q1M]
def Typ.named (t:Typ):Bool:=decide (t.kind=4)||decide (t.kind=5)||decide (t.kind=6)
theorem q1Q (k:Int):evA 88 [.int .i64 k] (.bool (decide (k=4)||decide (k=5)||decide (k=6))):=by
 refine q00 (c:=q5k) rfl rfl ?_;by_cases h1:k=4 <;> by_cases h2:k=5 <;> by_cases h3:k=6 <;> simp [q5k,-y0,-y5,-y4,y3,h1,h2,h3]
theorem keykind_ev (k:Int):evA 143 [.int .i64 k] (.bool (decide (1<=k/\k<=4))):=by
 refine q00 (c:=q48) rfl rfl ?_;by_cases h1:1<=k <;> by_cases h2:k<=4 <;> simp [q48,-y0,-y5,-y4,y3,h1,h2]
theorem own_ev1 (t:Typ) (h:t.kind=1) {T:Bool} (hs:evA 208 [.agg (typC t),.agg (typC t.plain)] (.bool T)):evA 180 [.agg (typC t)] (.bool (T)):=by
 have hp:=q5y t;obtain ⟨pc,hpc⟩:∃ pc,typC t.plain=pc:=⟨_,rfl⟩;have hpf:pc.all AV.free0=true:=by rw [<- hpc]; rfl
 rw [hpc] at hp hs;have hnm:=q1Q t.kind;refine q00 (c:=q0c) rfl rfl ?_;simp [evA,typC,h] at hs hp hnm;cases T with
 | false=>simp [q0c,-y0,-y5,-y4,y3,typC,h,hp,hs,hnm,hpf,-y6]
 | true =>
  simp [q0c,-y0,-y5,-y4,y3,typC,h,hp,hs,hnm,hpf,-y6]
theorem own_ev2 (t:Typ) (h:t.kind=2) {T:Bool} (hs:evA 208 [.agg (typC t),.agg (typC t.plain)] (.bool T)):evA 180 [.agg (typC t)] (.bool (T&&decide (t.low<=t.high))):=by
 have hp:=q5y t;obtain ⟨pc,hpc⟩:∃ pc,typC t.plain=pc:=⟨_,rfl⟩;have hpf:pc.all AV.free0=true:=by rw [<- hpc]; rfl
 rw [hpc] at hp hs;have hnm:=q1Q t.kind;refine q00 (c:=q0c) rfl rfl ?_;simp [evA,typC,h] at hs hp hnm;cases T with
 | false=>simp [q0c,-y0,-y5,-y4,y3,typC,h,hp,hs,hnm,hpf,-y6]
 | true =>
  simp [q0c,-y0,-y5,-y4,y3,typC,h,hp,hs,hnm,hpf,-y6]
theorem own_ev3 (t:Typ) (h:t.kind=3) {T:Bool} (hs:evA 208 [.agg (typC t),.agg (typC t.plain)] (.bool T)):evA 180 [.agg (typC t)] (.bool (T&&(decide (0<=t.max)&&decide (t.max<=200)))):=by
 have hp:=q5y t;obtain ⟨pc,hpc⟩:∃ pc,typC t.plain=pc:=⟨_,rfl⟩;have hpf:pc.all AV.free0=true:=by rw [<- hpc]; rfl
 rw [hpc] at hp hs;have hnm:=q1Q t.kind;refine q00 (c:=q0c) rfl rfl ?_;simp [evA,typC,h] at hs hp hnm;cases T with
 | false=>simp [q0c,-y0,-y5,-y4,y3,typC,h,hp,hs,hnm,hpf,-y6]
 | true =>
  by_cases h1:0<=t.max
  ·simp [q0c,-y0,-y5,-y4,y3,typC,h,hp,hs,hnm,hpf,-y6,h1]
  ·simp [q0c,-y0,-y5,-y4,y3,typC,h,hp,hs,hnm,hpf,-y6,h1]
theorem own_ev7 (t:Typ) (h:t.kind=7) {T:Bool} (hs:evA 208 [.agg (typC t),.agg (typC t.plain)] (.bool T)):evA 180 [.agg (typC t)] (.bool (T&&(decide (0<=t.max)&&decide (t.max<=50)))):=by
 have hp:=q5y t;obtain ⟨pc,hpc⟩:∃ pc,typC t.plain=pc:=⟨_,rfl⟩;have hpf:pc.all AV.free0=true:=by rw [<- hpc]; rfl
 rw [hpc] at hp hs;have hnm:=q1Q t.kind;refine q00 (c:=q0c) rfl rfl ?_;simp [evA,typC,h] at hs hp hnm;cases T with
 | false=>simp [q0c,-y0,-y5,-y4,y3,typC,h,hp,hs,hnm,hpf,-y6]
 | true =>
  by_cases h1:0<=t.max
  ·simp [q0c,-y0,-y5,-y4,y3,typC,h,hp,hs,hnm,hpf,-y6,h1]
  ·simp [q0c,-y0,-y5,-y4,y3,typC,h,hp,hs,hnm,hpf,-y6,h1]
theorem own_ev8 (t:Typ) (h:t.kind=8) {T:Bool} (hs:evA 208 [.agg (typC t),.agg (typC t.plain)] (.bool T)):evA 180 [.agg (typC t)] (.bool (T&&(decide (0<=t.max)&&decide (t.max<=50)))):=by
 have hp:=q5y t;obtain ⟨pc,hpc⟩:∃ pc,typC t.plain=pc:=⟨_,rfl⟩;have hpf:pc.all AV.free0=true:=by rw [<- hpc]; rfl
 rw [hpc] at hp hs;have hnm:=q1Q t.kind;refine q00 (c:=q0c) rfl rfl ?_;simp [evA,typC,h] at hs hp hnm;cases T with
 | false=>simp [q0c,-y0,-y5,-y4,y3,typC,h,hp,hs,hnm,hpf,-y6]
 | true =>
  by_cases h1:0<=t.max
  ·simp [q0c,-y0,-y5,-y4,y3,typC,h,hp,hs,hnm,hpf,-y6,h1]
  ·simp [q0c,-y0,-y5,-y4,y3,typC,h,hp,hs,hnm,hpf,-y6,h1]
theorem own_ev9 (t:Typ) (h:t.kind=9) {T:Bool} (hs:evA 208 [.agg (typC t),.agg (typC t.plain)] (.bool T)):evA 180 [.agg (typC t)] (.bool (T)):=by
 have hp:=q5y t;obtain ⟨pc,hpc⟩:∃ pc,typC t.plain=pc:=⟨_,rfl⟩;have hpf:pc.all AV.free0=true:=by rw [<- hpc]; rfl
 rw [hpc] at hp hs;have hnm:=q1Q t.kind;refine q00 (c:=q0c) rfl rfl ?_;simp [evA,typC,h] at hs hp hnm;cases T with
 | false=>simp [q0c,-y0,-y5,-y4,y3,typC,h,hp,hs,hnm,hpf,-y6]
 | true =>
  simp [q0c,-y0,-y5,-y4,y3,typC,h,hp,hs,hnm,hpf,-y6]
theorem own_ev4 (t:Typ) (h:t.kind=4) {T:Bool} (hs:evA 208 [.agg (typC t),.agg (typC t.plain)] (.bool T)) {a b:Bool} (hn:evA 210 [.str t.name] (.bool a)) (hy:evA 211 [.sl t.sn (t.syms.map symC)] (.bool b)):evA 180 [.agg (typC t)] (.bool (T&&(a&&b))):=by
 have hp:=q5y t;obtain ⟨pc,hpc⟩:∃ pc,typC t.plain=pc:=⟨_,rfl⟩;have hpf:pc.all AV.free0=true:=by rw [<- hpc]; rfl
 rw [hpc] at hp hs;have hnm:=q1Q t.kind;refine q00 (c:=q0c) rfl rfl ?_;simp [evA,typC,h] at hs hp hnm;simp only [evA] at hn hy;cases T with
 | false=>simp [q0c,-y0,-y5,-y4,y3,typC,h,hp,hs,hnm,hpf,-y6]
 | true =>
  cases a with
  | false=>simp [q0c,-y0,-y5,-y4,y3,typC,h,hp,hs,hnm,hpf,-y6,hn]
  | true=>simp [q0c,-y0,-y5,-y4,y3,typC,h,hp,hs,hnm,hpf,-y6,hn,hy]
theorem own_ev5 (t:Typ) (h:t.kind=5) {T:Bool} (hs:evA 208 [.agg (typC t),.agg (typC t.plain)] (.bool T)) {a b:Bool} (hn:evA 210 [.str t.name] (.bool a)) (hy:evA 212 [.sl t.mn (t.mems.map memC),.bool true] (.bool b)):evA 180 [.agg (typC t)] (.bool (T&&(a&&b))):=by
 have hp:=q5y t;obtain ⟨pc,hpc⟩:∃ pc,typC t.plain=pc:=⟨_,rfl⟩;have hpf:pc.all AV.free0=true:=by rw [<- hpc]; rfl
 rw [hpc] at hp hs;have hnm:=q1Q t.kind;refine q00 (c:=q0c) rfl rfl ?_;simp [evA,typC,h] at hs hp hnm;simp only [evA] at hn hy;cases T with
 | false=>simp [q0c,-y0,-y5,-y4,y3,typC,h,hp,hs,hnm,hpf,-y6]
 | true =>
  cases a with
  | false=>simp [q0c,-y0,-y5,-y4,y3,typC,h,hp,hs,hnm,hpf,-y6,hn]
  | true=>simp [q0c,-y0,-y5,-y4,y3,typC,h,hp,hs,hnm,hpf,-y6,hn,hy]
theorem own_ev6 (t:Typ) (h:t.kind=6) {T:Bool} (hs:evA 208 [.agg (typC t),.agg (typC t.plain)] (.bool T)) {a b:Bool} (hn:evA 210 [.str t.name] (.bool a)) (hy:evA 212 [.sl t.mn (t.mems.map memC),.bool false] (.bool b)):evA 180 [.agg (typC t)] (.bool (T&&(a&&b))):=by
 have hp:=q5y t;obtain ⟨pc,hpc⟩:∃ pc,typC t.plain=pc:=⟨_,rfl⟩;have hpf:pc.all AV.free0=true:=by rw [<- hpc]; rfl
 rw [hpc] at hp hs;have hnm:=q1Q t.kind;refine q00 (c:=q0c) rfl rfl ?_;simp [evA,typC,h] at hs hp hnm;simp only [evA] at hn hy;cases T with
 | false=>simp [q0c,-y0,-y5,-y4,y3,typC,h,hp,hs,hnm,hpf,-y6]
 | true =>
  cases a with
  | false=>simp [q0c,-y0,-y5,-y4,y3,typC,h,hp,hs,hnm,hpf,-y6,hn]
  | true=>simp [q0c,-y0,-y5,-y4,y3,typC,h,hp,hs,hnm,hpf,-y6,hn,hy]
theorem own_ev0 (t:Typ) (h:¬ (1<=t.kind/\t.kind<=9)):evA 180 [.agg (typC t)] (.bool false):=by
 refine q00 (c:=q0c) rfl rfl ?_;by_cases h1:t.kind<1
 ·simp [q0c,-y0,-y5,-y4,y3,typC,h1]
 ·have h2:9<t.kind:=by omega
  simp [q0c,-y0,-y5,-y4,y3,typC,h1,h2]
theorem own_ev (t:Typ) (ht:t.fine):evA 180 [.agg (typC t)] (.bool (q0Q t)):=by
 obtain ⟨hok,hsl,hml⟩:=ht;have hs:=rtsame_ev t t.plain hok;rw [plain_same] at hs;have hn:=rname_ev t.name;have hsy:=rsymbols_ev t.syms hsl t.sn;have hme:=fun r=>rmembers_ev t.mems hml hok.2.2 t.mn r
 unfold q0Q q6O;rcases kinds t.kind with h | h | h | h | h | h | h | h | h | h
 ·have r:=own_ev1 t h hs; simpa [h] using r
 ·have r:=own_ev2 t h hs; rw [Bool.and_comm] at r; simpa [h] using r
 ·have r:=own_ev3 t h hs; rw [Bool.and_comm] at r; simpa [h] using r
 ·have r:=own_ev4 t h hs hn hsy; rw [Bool.and_comm] at r; simpa [h] using r
 ·have r:=own_ev5 t h hs hn (hme true); rw [Bool.and_comm] at r; simpa [h] using r
 ·have r:=own_ev6 t h hs hn (hme false); rw [Bool.and_comm] at r; simpa [h] using r
 ·have r:=own_ev7 t h hs; rw [Bool.and_comm] at r; simpa [h] using r
 ·have r:=own_ev8 t h hs; rw [Bool.and_comm] at r; simpa [h] using r
 ·have r:=own_ev9 t h hs; simpa [h] using r
 ·have r:=own_ev0 t h; rw [decide_eq_false h]; exact r
structure Prt where
 id:Int
 ty:Int
 flag:Int
structure Nde where
 k:Int
 a:Int
 b:Int
 c:Int
 pn:Bool
 parts:List Prt
def prtC (x:Prt):List AV:=[.int .u8 x.id,.int .u8 x.ty,.int .u8 x.flag]
def ndeC (x:Nde):List AV:=[.int .u8 x.k,.int .u8 x.a,.int .u8 x.b,.int .u8 x.c,.sl x.pn (x.parts.map prtC)]
def dftC (n:Bool) (l:List Nde):List AV:=[.sl n (l.map ndeC)]
def u8 (n:Int):Prop:=0<=n/\n<=255
def Prt.ok (x:Prt):Prop:=u8 x.id/\u8 x.ty/\u8 x.flag
def Nde.ok (x:Nde):Prop:=u8 x.k/\u8 x.a/\u8 x.b/\u8 x.c/\x.parts.length<=9223372036854775807/\∀ p∈x.parts,p.ok
def Nde.kind (x:Nde):Int:=1 + x.k % 9
def Nde.low (x:Nde):Int:=x.a % 7 - 3
def Nde.high (x:Nde):Int:=x.low + x.b % 6
theorem kind_rng {x:Nde} (h:x.ok):1<=x.kind/\x.kind<=9:=by
 obtain ⟨⟨h1,h2⟩,_⟩:=h;simp only [Nde.kind];omega
theorem u8_mod (n m:Int) (h:u8 n) (hm:0<m) (hm2:m<=255):n.tmod m=n % m/\IntKind.u8.wrap (n % m)=n % m:=by
 obtain ⟨h1,h2⟩:=h;have e:=yw h1 (b:=m);have g1:=yI n (b:=m) (by omega);have g2:=yN n hm;refine ⟨e,?_⟩;simp only [IntKind.wrap,IntKind.bits,IntKind.signed];simp;omega
theorem kind_ev (dn:Bool) (l:List Nde) (z:Int) (x:Nde) (hz:0<=z) (h:l[z.toNat]?=some x) (hx:x.ok):evA 87 [.agg (dftC dn l),.int .i64 z] (.int .i64 x.kind):=by
 refine q00 (c:=q66) rfl rfl ?_;have g:(l.map ndeC)[z.toNat]?=some (ndeC x):=by simp [h]
 obtain ⟨e1,e2⟩:=u8_mod x.k 9 hx.1 (by omega) (by omega);simp only [ndeC] at g;simp [q66,dftC,-y0,-y5,-y4,y3,g,hz,e1];have:=hx.1;simp only [u8] at this;rw [IntWalk.i64_in (x.k % 9) (by omega),IntWalk.i64_in _ (by omega)];rfl
theorem hollow_ev (k:Int):evA 172 [.int .i64 k] (.bool (decide (7<=k))):=by
 refine q00 (c:=q4E) rfl rfl ?_;simp [q4E,-y0,-y5,-y4,y3]
theorem low_ev (x:Nde) (hx:x.ok):evA 89 [.agg (ndeC x)] (.int .i64 x.low):=by
 refine q00 (c:=q6X) rfl rfl ?_;obtain ⟨e1,e2⟩:=u8_mod x.a 7 hx.2.1 (by omega) (by omega);simp [q6X,ndeC,-y0,-y5,-y4,y3,e1];rw [IntWalk.i64_in (x.a % 7) (by omega),IntWalk.i64_in _ (by omega)];rfl
theorem high_ev (x:Nde) (hx:x.ok):evA 90 [.agg (ndeC x)] (.int .i64 x.high):=by
 refine q00 (c:=q65) rfl rfl ?_;obtain ⟨e1,e2⟩:=u8_mod x.b 6 hx.2.2.1 (by omega) (by omega);have:=low_ev x hx;simp only [ndeC] at this;simp [q65,ndeC,-y0,-y5,-y4,y3,e1,this];rw [IntWalk.i64_in (x.b % 6) (by omega),IntWalk.i64_in _ (by simp only [Nde.low]; omega)];rfl
def bitZ (a:Int) (i:Nat):Bool:=decide (a / 2 ^ i % 2=1)
def idl (a:Int):Nat->List Int
 | 0=>[]
 | i + 1=>idl a i++if bitZ a i then [((i + 1:Nat):Int)] else []
def idsZ (a:Int):List Int:=if idl a 6=[] then [1] else idl a 6
def q7I (n:Int):List AV:=[.int .i64 n]
theorem idl_len (a:Int):∀ i,(idl a i).length<=i
 | 0=>ym _
 | i + 1=>by
  have:=idl_len a i;rw [idl,yu];split <;> simp <;> omega
theorem els_int (l:List Int):q1f 1 (l.map q7I)=true:=q1B _ _ _ fun _=>rfl
theorem ids7_ev (x:Nde) (hx:x.ok):evA 91 [.agg (ndeC x)] (.sl false ((idsZ x.a).map q7I)):=by
 refine q00 (c:=q6V) rfl rfl ?_;obtain ⟨hk,ha,hb,hc,hp,hpp⟩:=hx;obtain ⟨ha1,ha2⟩:=ha;simp [q6V,ndeC,-y0,-y5,-y4,y3];refine q0f 6 (fun i s=>(s.env 1).v=.ptr 1 1 0/\s.mem 1 1=some [⟨.int .u8 x.k,.no⟩,⟨.int .u8 x.a,.no⟩,⟨.int .u8 x.b,.no⟩,⟨.int .u8 x.c,.no⟩,⟨.sl x.pn (x.parts.map prtC),.no⟩]/\(s.env 4).v=.int .i64 i/\(s.env 3).v=.sl (idl x.a i).isEmpty ((idl x.a i).map q7I)/\(idl x.a i=[]/\(s.env 3).a=.ex\/¬ idl x.a i=[]/\(s.env 3).a=.own 19 3))
  (fun e s=>e=.exit 0/\(s.env 3).v=.sl (idl x.a 6).isEmpty ((idl x.a 6).map q7I)/\(idl x.a 6=[]/\(s.env 3).a=.ex\/¬ idl x.a 6=[]/\(s.env 3).a=.own 19 3)) (fun i hi s k h ih hk=>?_) _ _ ?_ (fun e s h=>?_)
 ·obtain ⟨e1,m1,e4,e3,an⟩:=h;refine q04 ?_;by_cases hlt:i<6
  ·have hlt':(i:Int)<6:=by omega
   have hsh:shN .u8 i=i:=by simp [shN,IntKind.bits]; omega
   have hy:x.a.fdiv (2 ^ i)=x.a / 2 ^ i:=Int.fdiv_eq_ediv_of_nonneg _ (Int.pow_nonneg (by omega));have hy0:0<=x.a / 2 ^ i:=Int.ediv_nonneg ha1 (Int.pow_nonneg (by omega));have hm:(x.a / 2 ^ i).tmod 2=x.a / 2 ^ i % 2:=yw hy0;have hwi:=q11 (i:=i) (by omega);have hl:=idl_len x.a i;have hroom:q10 8 ((idl x.a i).length + 1)=true:=by rw [q0l]; omega
   have hels:=els_int (idl x.a i);have hnext:idl x.a (i + 1)=idl x.a i++if bitZ x.a i then [((i + 1:Nat):Int)] else []:=rfl
   have hb:bitZ x.a i=decide (x.a / 2 ^ i % 2=1):=rfl;generalize hI:idl x.a i=L at *
   generalize hJ:idl x.a (i + 1)=L' at *
   generalize x.a / 2 ^ i=y at *
   by_cases c:y % 2=1
   ·rcases an with ⟨a0,a3⟩ | ⟨a0,a3⟩
    ·subst a0;have hr1:q10 8 1=true:=by rw [q0l]; omega
     simp [q3B,-y0,-y5,-y4,y3,e1,m1,e4,e3,a3,hlt',hsh,hy,hm,hwi,c,hr1];refine ih hlt _ ⟨?_,?_,?_,?_,?_⟩ <;> simp [e1,m1,hnext,hb,c,q7I,An.strip]
    ·have hem:L.isEmpty=false:=by
      cases L with
      | nil=>exact absurd rfl a0
      | cons=>rfl
     rw [hem] at e3;simp [q3B,-y0,-y5,-y4,y3,e1,m1,e4,e3,a0,a3,hlt',hsh,hy,hm,hwi,c,hroom,hels];refine ih hlt _ ⟨?_,?_,?_,?_,?_⟩ <;> simp [e1,m1,hnext,hb,c,q7I,An.strip]
   ·simp [q3B,-y0,-y5,-y4,y3,e1,m1,e4,e3,hlt',hsh,hy,hm,hwi,c];refine ih hlt _ ⟨?_,?_,?_,?_,?_⟩ <;> simp [e1,m1,e3,an,hnext,hb,c,q7I,An.strip]
  ·have hi6:i=6:=by omega
   subst hi6;simp [q3B,-y0,-y5,-y4,y3,e4];exact hk _ _ ⟨rfl,by simpa using e3,by simpa using an⟩
 ·simp [idl]
 ·obtain ⟨rfl,e3,an⟩:=h;have hl:=idl_len x.a 6;generalize hI:idl x.a 6=L at *
  rcases an with ⟨a0,a3⟩ | ⟨a0,a3⟩
  ·subst a0;have hr1:q10 8 1=true:=by rw [q0l]; omega
   simp [-y0,-y5,-y4,y3,e3,a3,hr1,idsZ,hI,q7I]
  ·simp [-y0,-y5,-y4,y3,e3,a3,a0,idsZ,hI]
def kdAt (l:List Nde) (z:Int):Int:=match l[z.toNat]? with
 | some x=>x.kind
 | none=>0
def oks (l:List Nde):Prop:=1<=l.length/\l.length<=5/\∀ x∈l,x.ok
theorem q4y {dn:Bool} {l:List Nde} (hl:oks l) {z:Int} (h0:0<=z) (h1:z<l.length):evA 87 [.agg (dftC dn l),.int .i64 z] (.int .i64 (kdAt l z)):=by
 have hlt:z.toNat<l.length:=by omega
 have g:l[z.toNat]?=some l[z.toNat]:=y7 hlt;have:=kind_ev dn l z _ h0 g (hl.2.2 _ (y8 hlt));rw [kdAt,g];exact this
theorem kdAt_rng {l:List Nde} (hl:oks l) {z:Int} (h0:0<=z) (h1:z<l.length):1<=kdAt l z/\kdAt l z<=9:=by
 have hlt:z.toNat<l.length:=by omega
 have g:l[z.toNat]?=some l[z.toNat]:=y7 hlt;rw [kdAt,g];exact kind_rng (hl.2.2 _ (y8 hlt))
def isKey (k:Int):Bool:=decide (1<=k/\k<=4)
def q3W (l:List Nde) (code:Int):Nat->Nat->Int
 | 0,_=>-1
 | n + 1,k=>if isKey (kdAt l ((code + k) % l.length))=true then (code + k) % l.length else q3W l code n (k + 1)
def keyZ (l:List Nde) (code:Int):Int:=q3W l code l.length 0
theorem q8v {l:List Nde} (hl:oks l) (code:Int):∀ n k,-1<=q3W l code n k/\q3W l code n k<l.length
 | 0,k=>by have:=hl.1; simp only [q3W]; omega
 | n + 1,k=>by
  have hp:=hl.1;have h1:=yI (code + k) (b:=(l.length:Int)) (by omega);have h2:=yN (code + k) (b:=(l.length:Int)) (by omega);have:=q8v hl code n (k + 1);simp only [q3W];split <;> omega
theorem key_ev (dn:Bool) (l:List Nde) (hl:oks l) (code:Int) (hc:u8 code):evA 93 [.agg (dftC dn l),.int .u8 code] (.int .i64 (keyZ l code)):=by
 refine q00 (c:=q6W) rfl rfl ?_;obtain ⟨hc0,hc1⟩:=hc;have hN:=hl.1;have hN5:=hl.2.1;have hkd:=fun z h0 h1=>q4y (dn:=dn) hl (z:=z) h0 h1
 simp only [evA,dftC] at hkd ⊢;simp [q6W,-y0,-y5,-y4,y3];refine q0f l.length (fun i s=>(s.env 2).v=.ptr 2 1 0/\s.mem 2 1=some [⟨.sl dn (l.map ndeC),.no⟩]/\(s.env 1).v=.int .u8 code/\(s.env 5).v=.int .i64 l.length/\(s.env 6).v=.int .i64 i/\q3W l code (l.length - i) i=keyZ l code)
  (fun e s=>(e=.exit 0/\keyZ l code=-1)\/(e=.ret/\(s.env 4).v=.int .i64 (keyZ l code))) (fun i hi s k h ih hk=>?_) _ _ ?_ (fun e s h=>?_)
 ·obtain ⟨e2,m2,e1,e5,e6,hs⟩:=h;refine q04 ?_;by_cases hlt:i<l.length
  ·have hlt':(i:Int)<l.length:=by omega
   have hwi:=q11 (i:=i) (by omega);have hwc:IntKind.i64.wrap code=code:=IntWalk.i64_in _ (by omega);have hwa:IntKind.i64.wrap (code + i)=code + i:=IntWalk.i64_in _ (by omega);have hm:(code + (i:Int)).tmod l.length=(code + i) % l.length:=yw (by omega);have hz0:=yI (code + i) (b:=(l.length:Int)) (by omega);have hz1:=yN (code + i) (b:=(l.length:Int)) (by omega);have hlen0:¬ (l.length:Int)=0:=by omega
   have hkk:=hkd _ hz0 hz1;rw [show l.length - i=l.length - (i + 1) + 1 from by omega,q3W] at hs;generalize (code + (i:Int)) % l.length=z at *
   have hkey:=keykind_ev (kdAt l z);rw [show decide (1<=kdAt l z/\kdAt l z<=4)=isKey (kdAt l z) from rfl] at hkey;obtain ⟨N,hNN⟩:∃ N:Int,N=l.length:=⟨_,rfl⟩;rw [<- hNN] at e5 hlt' hm hlen0;cases hb:isKey (kdAt l z) with
   | true =>
    rw [hb] at hkey;rw [if_pos hb] at hs;simp [q4F,-y0,-y5,-y4,y3,e2,m2,e1,e5,e6,hlt',hwc,hwa,hm,hlen0,hkk,hkey];exact hk _ _ (.inr ⟨rfl,by simp [hs]⟩)
   | false =>
    rw [hb] at hkey;rw [hb,if_neg (by decide)] at hs;simp [q4F,-y0,-y5,-y4,y3,e2,m2,e1,e5,e6,hlt',hwc,hwa,hm,hlen0,hkk,hkey,hwi];refine ih hlt _ ⟨?_,?_,?_,?_,?_,hs⟩ <;> simp [e2,m2,e1,e5,hNN]
  ·have hlt':¬ (i:Int)<l.length:=by omega
   simp [q4F,-y0,-y5,-y4,y3,e5,e6,hlt'];refine hk _ _ (.inl ⟨rfl,?_⟩);rw [<- hs,show l.length - i=0 from by omega,q3W]
 ·simp [keyZ]
 ·rcases h with ⟨rfl,h1⟩ | ⟨rfl,h1⟩ <;> simp [-y0,-y5,-y4,y3,h1]
def q3v (l:List Nde):Nat->Nat->Int
 | 0,_=>-1
 | n + 1,k=>if 7<=kdAt l k then k else q3v l n (k + 1)
def tgtZ (l:List Nde) (i code:Int):Int:=if 7<=kdAt l (code % l.length)\/code % l.length<i then code % l.length else if 0<i then code % l.length % i else q3v l l.length 0
theorem holFrom_rng {l:List Nde} (hl:oks l):∀ n k,n + k<=l.length->-1<=q3v l n k/\q3v l n k<l.length
 | 0,k,_=>by have:=hl.1; simp only [q3v]; omega
 | n + 1,k,h=>by
  have:=holFrom_rng hl n (k + 1) (by omega);simp only [q3v];split <;> omega
theorem q9r {l:List Nde} (hl:oks l) (i code:Int) (hi:i<l.length):-1<=tgtZ l i code/\tgtZ l i code<l.length:=by
 have hp:=hl.1;have h1:=yI code (b:=(l.length:Int)) (by omega);have h2:=yN code (b:=(l.length:Int)) (by omega);have h3:=holFrom_rng hl l.length 0 (by omega);simp only [tgtZ];split
 ·omega
 ·split
  ·rename_i h;have h4:=yI (code % l.length) (b:=i) (by omega);have h5:=yN (code % l.length) h;omega
  ·exact h3
theorem target_ev (dn:Bool) (l:List Nde) (hl:oks l) (i0:Int) (hi0:0<=i0) (hi1:i0<l.length) (code:Int) (hc:u8 code):evA 141 [.agg (dftC dn l),.int .i64 i0,.int .u8 code] (.int .i64 (tgtZ l i0 code)):=by
 refine q00 (c:=q2s) rfl rfl ?_;obtain ⟨hc0,hc1⟩:=hc;have hN:=hl.1;have hN5:=hl.2.1;have hkd:=fun z h0 h1=>q4y (dn:=dn) hl (z:=z) h0 h1
 simp only [evA,dftC] at hkd ⊢;have hz0:=yI code (b:=(l.length:Int)) (by omega);have hz1:=yN code (b:=(l.length:Int)) (by omega);have hwc:IntKind.i64.wrap code=code:=IntWalk.i64_in _ (by omega);have hm:code.tmod l.length=code % l.length:=yw (by omega);have hlen0:¬ (l.length:Int)=0:=by omega
 have hl0:¬ l=[]:=by intro e; rw [e] at hN; simp at hN
 have hkk:=hkd _ hz0 hz1;unfold tgtZ;generalize code % (l.length:Int)=z at *
 have hh:=hollow_ev (kdAt l z);have hmi:0<i0->z.tmod i0=z % i0:=fun _=>yw hz0
 by_cases c1:7<=kdAt l z
 ·simp [q2s,-y0,-y5,-y4,y3,hwc,hm,hl0,hkk,hh,c1]
 ·rw [decide_eq_false c1] at hh;by_cases c2:z<i0
  ·simp [q2s,-y0,-y5,-y4,y3,hwc,hm,hl0,hkk,hh,c1,c2]
  ·by_cases c3:0<i0
   ·simp [q2s,-y0,-y5,-y4,y3,hwc,hm,hl0,hkk,hh,c1,c2,c3,hmi c3,show ¬ i0=0 from by omega]
   ·simp [q2s,-y0,-y5,-y4,y3,hwc,hm,hl0,hkk,hh,c1,c2,c3];clear hkk hh c1 c2;refine q0f l.length (fun i s=>(s.env 3).v=.ptr 3 1 0/\s.mem 3 1=some [⟨.sl dn (l.map ndeC),.no⟩]/\(s.env 7).v=.int .i64 l.length/\(s.env 9).v=.int .i64 i/\q3v l (l.length - i) i=q3v l l.length 0)
     (fun e s=>(e=.exit 0/\q3v l l.length 0=-1)\/(e=.ret/\(s.env 6).v=.int .i64 (q3v l l.length 0))) (fun i hi s k h ih hk=>?_) _ _ ?_ (fun e s h=>?_)
    ·obtain ⟨e3,m3,e7,e9,hs⟩:=h;refine q04 ?_;by_cases hlt:i<l.length
     ·have hlt':(i:Int)<l.length:=by omega
      have hwi:=q11 (i:=i) (by omega);have hkk:=hkd i (by omega) hlt';rw [show l.length - i=l.length - (i + 1) + 1 from by omega,q3v] at hs;have hh:=hollow_ev (kdAt l i);by_cases hb:7<=kdAt l i
      ·rw [decide_eq_true hb] at hh;rw [if_pos hb] at hs;simp [q3q,-y0,-y5,-y4,y3,e3,m3,e7,e9,hlt,hkk,hh];exact hk _ _ (.inr ⟨rfl,by simp [hs]⟩)
      ·rw [decide_eq_false hb] at hh;rw [if_neg hb] at hs;simp [q3q,-y0,-y5,-y4,y3,e3,m3,e7,e9,hlt,hkk,hh,hwi];refine ih hlt _ ⟨?_,?_,?_,?_,hs⟩ <;> simp [e3,m3,e7]
     ·have hlt':¬ (i:Int)<l.length:=by omega
      simp [q3q,-y0,-y5,-y4,y3,e7,e9,hlt];refine hk _ _ (.inl ⟨rfl,?_⟩);rw [<- hs,show l.length - i=0 from by omega,q3v]
    ·simp
    ·rcases h with ⟨rfl,h1⟩ | ⟨rfl,h1⟩ <;> simp [-y0,-y5,-y4,y3,h1]
section
set_option maxHeartbeats 2000000
def Vl.of (k:Int) (b:Bool) (i:Int) (s:ByteArray) (d:Int):Vl:=.mk k b i s d true [] true [] true []
theorem q0o (k:Int) (b:Bool) (i:Int) (s:ByteArray) (d:Int):valC (.of k b i s d)=[.int .i64 k,.bool b,.int .i64 i,.str s,.int .i64 d,.sl true [],.sl true [],.sl true []]:=by
 rw [q03];rfl
def ndAt (l:List Nde) (z:Int):Nde:=match l[z.toNat]? with
 | some x=>x
 | none=>⟨0,0,0,0,true,[]⟩
def inK (l:List Nde) (t:Int):Int:=if kdAt l t=8/\keyZ l 0<0 then 7 else kdAt l t
def idAt (a code:Int):Int:=(idsZ a)[(code % (idsZ a).length).toNat]?.getD 0
def q7k (l:List Nde) (t code:Int):Vl × Bool :=
 if kdAt l t=5\/kdAt l t=6 then (.of 0 false 0 ⟨#[]⟩ 0,false) else
 (.of (inK l t) (decide (kdAt l t=1/\code % 2=1)) (if kdAt l t=2 then (ndAt l t).low + code % ((ndAt l t).b % 6 + 1) else 0) (if kdAt l t=3/\0<(ndAt l t).a % 4/\code % 2=1 then ⟨#[97]⟩ else ⟨#[]⟩) (if kdAt l t=4 then idAt (ndAt l t).a code else 0),true)
theorem qb4 (a:Int):1<=(idsZ a).length/\(idsZ a).length<=6:=by
 have:=idl_len a 6;unfold idsZ;split
 ·simp
 ·rename_i h;refine ⟨?_,this⟩;cases h2:idl a 6 with
  | nil=>exact absurd h2 h
  | cons=>simp
theorem initial_ev (dn:Bool) (l:List Nde) (hl:oks l) (t:Int) (ht0:0<=t) (ht1:t<l.length) (code:Int) (hc:u8 code):evA 142 [.agg (dftC dn l),.int .i64 t,.int .u8 code] (.tup [.agg (valC (q7k l t code).1),.bool (q7k l t code).2]):=by
 refine q00 (c:=q0I) rfl rfl ?_;have hkd:=q4y (dn:=dn) hl ht0 ht1;have hkr:=kdAt_rng hl ht0 ht1;have hkey:=key_ev dn l hl 0 ⟨by omega,by omega⟩;have hlt:t.toNat<l.length:=by omega
 have g:l[t.toNat]?=some l[t.toNat]:=y7 hlt;have hx:(ndAt l t).ok:=by rw [ndAt,g]; exact hl.2.2 _ (y8 hlt)
 have gm:(l.map ndeC)[t.toNat]?=some (ndeC (ndAt l t)):=by rw [ndAt,g]; simp [g]
 obtain ⟨hc0,hc1⟩:=hc;unfold q7k inK;generalize ndAt l t=x at *
 generalize kdAt l t=kk at *
 have hlow:=low_ev x hx;have hhigh:=high_ev x hx;have hids:=ids7_ev x hx;have hlr:-3<=x.low/\x.low<=3:=by have:=hx.2.1; simp only [Nde.low,u8] at *; omega
 have hhr:x.low<=x.high/\x.high<=x.low + 5:=by have:=hx.2.2.1; simp only [Nde.high,u8] at *; omega
 have hd:x.high - x.low + 1=x.b % 6 + 1:=by simp only [Nde.high]; omega
 have hwc:IntKind.i64.wrap code=code:=IntWalk.i64_in _ (by omega);have hws:IntKind.i64.wrap (x.high - x.low)=x.high - x.low:=IntWalk.i64_in _ (by omega);have hws1:IntKind.i64.wrap (x.high - x.low + 1)=x.high - x.low + 1:=IntWalk.i64_in _ (by omega);have hm:code.tmod (x.high - x.low + 1)=code % (x.b % 6 + 1):=by rw [hd]; exact yw hc0
 have hmz:=yI code (b:=x.b % 6 + 1) (by omega);have hml:=yN code (b:=x.b % 6 + 1) (by omega);have hwl:IntKind.i64.wrap (x.low + code % (x.b % 6 + 1))=x.low + code % (x.b % 6 + 1):=IntWalk.i64_in _ (by omega);have hne:¬ x.high - x.low + 1=0:=by omega
 have hm2:code.tmod 2=code % 2:=yw hc0;have ha4:x.a.tmod 4=x.a % 4:=yw hx.2.1.1;simp only [evA,dftC,ndeC] at hkd hkey gm hlow hhigh hids ⊢;have hk:kk=1\/kk=2\/kk=3\/kk=4\/kk=5\/kk=6\/kk=7\/kk=8\/kk=9:=by omega
 rcases hk with rfl | rfl | rfl | rfl | rfl | rfl | rfl | rfl | rfl
 ·simp [q0I,-y0,-y5,-y4,y3,gm,ht0,hkd,hm2,q0o]
 ·generalize code % (x.b % 6 + 1)=y at *
  simp [q0I,-y0,-y5,-y4,y3,gm,ht0,hkd,q0o,hlow,hhigh,hwc,hws,hws1,hm,hne,hwl]
 ·by_cases c1:0<x.a % 4 <;> by_cases c2:code % 2=1 <;> simp [q0I,-y0,-y5,-y4,y3,gm,ht0,hkd,hm2,ha4,c1,c2,q0o]
 ·have hil:=qb4 x.a;have hmi:code.tmod (idsZ x.a).length=code % (idsZ x.a).length:=yw hc0;have hz0:=yI code (b:=((idsZ x.a).length:Int)) (by omega);have hz1:=yN code (b:=((idsZ x.a).length:Int)) (by omega);have hl0:¬ ((idsZ x.a).length:Int)=0:=by omega
  unfold idAt;generalize code % ((idsZ x.a).length:Int)=z at *
  have gz:(idsZ x.a)[z.toNat]?=some (idsZ x.a)[z.toNat]:=y7 (by omega);have gi:((idsZ x.a).map q7I)[z.toNat]?=some [.int .i64 (idsZ x.a)[z.toNat]]:=by rw [yf,gz]; rfl
  rw [gz];generalize (idsZ x.a)[z.toNat]=y at *
  have hlm:((idsZ x.a).map q7I).length=(idsZ x.a).length:=by simp
  generalize (idsZ x.a).map q7I=M at *
  obtain ⟨N,hN⟩:∃ N:Int,N=(idsZ x.a).length:=⟨_,rfl⟩;rw [<- hN] at hmi hl0;simp [q0I,-y0,-y5,-y4,y3,gm,ht0,hkd,q0o,hids,hwc,hlm,<- hN,hmi,hl0,hz0,gi]
 ·simp [q0I,-y0,-y5,-y4,y3,gm,ht0,hkd,q0o]
 ·simp [q0I,-y0,-y5,-y4,y3,gm,ht0,hkd,q0o]
 ·simp [q0I,-y0,-y5,-y4,y3,gm,ht0,hkd,q0o]
 ·by_cases c1:keyZ l 0<0 <;> simp [q0I,-y0,-y5,-y4,y3,gm,ht0,hkd,hkey,c1,q0o]
 ·simp [q0I,-y0,-y5,-y4,y3,gm,ht0,hkd,q0o]
end
def low0 (m:Nat) (v:AV):Prop:=∀ t n,m<=n->v.kill0 t n=v
def lowV (m:Nat) (v:AV):Prop:=∀ t n,m<=n->v.kill t n=v
theorem q4W {m m':Nat} (h:m<=m') {v:AV} (hv:lowV m v):lowV m' v:=fun t n hn=>hv t n (yH h hn)
theorem low0_ptr {m t n o:Nat} (h:n<m):low0 m (.ptr t n o):=fun t' n' h'=>by simp only [AV.kill0]; rw [if_neg (by omega)]
theorem low0_ref {m t n z o l c:Nat} (h:n<m):low0 m (.ref t n z o l c):=fun t' n' h'=>by simp only [AV.kill0]; rw [if_neg (by omega)]
theorem q98 {m:Nat} {v:AV} (h:v.free0=true):low0 m v:=fun t n _=>kill0_free h t n
theorem q7M {m:Nat} {v:AV} (h:v.free=true):lowV m v:=fun t n _=>kill_free h t n
theorem lowV_of {m:Nat} {v:AV} (h:low0 m v):(v.leaf=true)->lowV m v:=fun hl t n hn=>by
 have:=h t n hn;cases v <;> first | exact this | (simp [AV.leaf] at hl; done)
theorem lowV_agg {m:Nat} {cs:List AV} (h:∀ c∈cs,low0 m c):lowV m (.agg cs):=fun t n hn=>by
 have:cs.map (AV.kill0 t n)=cs.map id:=yq fun c hc=>h c hc t n hn
 rw [List.map_id] at this;exact congrArg AV.agg this
theorem q1F {m t n o:Nat} (h:n<m):lowV m (.ptr t n o):=low0_ptr h
theorem q99 {m t n z o l c:Nat} (h:n<m):lowV m (.ref t n z o l c):=low0_ref h
theorem lowV_kill {m t n:Nat} (hn:m<=n) {v:AV} (hv:lowV m v):v.kill t n=v:=hv t n hn
theorem kill0_comm (v:AV) (t n t' n':Nat):(v.kill0 t n).kill0 t' n'=(v.kill0 t' n').kill0 t n:=by
 cases v with
 | ptr a b o=>by_cases h1:(a=t/\b=n) <;> by_cases h2:(a=t'/\b=n') <;> first | (simp only [AV.kill0,if_pos h1,if_pos h2]; done) | (simp only [AV.kill0,if_pos h1,if_neg h2]; done) | (simp only [AV.kill0,if_neg h1,if_pos h2]; done) | (simp only [AV.kill0,if_neg h1,if_neg h2]; done)
 | ref a b z o l c=>by_cases h1:(a=t/\b=n) <;> by_cases h2:(a=t'/\b=n') <;> first | (simp only [AV.kill0,if_pos h1,if_pos h2]; done) | (simp only [AV.kill0,if_pos h1,if_neg h2]; done) | (simp only [AV.kill0,if_neg h1,if_pos h2]; done) | (simp only [AV.kill0,if_neg h1,if_neg h2]; done)
 | mp a b=>by_cases h1:(a=t/\b=n) <;> by_cases h2:(a=t'/\b=n') <;> first | (simp only [AV.kill0,if_pos h1,if_pos h2]; done) | (simp only [AV.kill0,if_pos h1,if_neg h2]; done) | (simp only [AV.kill0,if_neg h1,if_pos h2]; done) | (simp only [AV.kill0,if_neg h1,if_neg h2]; done)
 | _=>rfl
theorem q8w (l:List AV) (t n t' n':Nat):(l.map (AV.kill0 t n)).map (AV.kill0 t' n')=(l.map (AV.kill0 t' n')).map (AV.kill0 t n):=by
 rw [y4,y4];exact yq fun x _=>kill0_comm x t n t' n'
theorem kill1_comm (v:AV) (t n t' n':Nat):(v.kill1 t n).kill1 t' n'=(v.kill1 t' n').kill1 t n:=by
 cases v with
 | agg cs=>exact congrArg AV.agg (q8w cs t n t' n')
 | ptr a b o=>by_cases h1:(a=t/\b=n) <;> by_cases h2:(a=t'/\b=n') <;> first | (simp only [AV.kill1,AV.kill0,if_pos h1,if_pos h2]; done) | (simp only [AV.kill1,AV.kill0,if_pos h1,if_neg h2]; done) | (simp only [AV.kill1,AV.kill0,if_neg h1,if_pos h2]; done) | (simp only [AV.kill1,AV.kill0,if_neg h1,if_neg h2]; done)
 | ref a b z o l c=>by_cases h1:(a=t/\b=n) <;> by_cases h2:(a=t'/\b=n') <;> first | (simp only [AV.kill1,AV.kill0,if_pos h1,if_pos h2]; done) | (simp only [AV.kill1,AV.kill0,if_pos h1,if_neg h2]; done) | (simp only [AV.kill1,AV.kill0,if_neg h1,if_pos h2]; done) | (simp only [AV.kill1,AV.kill0,if_neg h1,if_neg h2]; done)
 | mp a b=>by_cases h1:(a=t/\b=n) <;> by_cases h2:(a=t'/\b=n') <;> first | (simp only [AV.kill1,AV.kill0,if_pos h1,if_pos h2]; done) | (simp only [AV.kill1,AV.kill0,if_pos h1,if_neg h2]; done) | (simp only [AV.kill1,AV.kill0,if_neg h1,if_pos h2]; done) | (simp only [AV.kill1,AV.kill0,if_neg h1,if_neg h2]; done)
 | _=>rfl
theorem kill_comm (v:AV) (t n t' n':Nat):(v.kill t n).kill t' n'=(v.kill t' n').kill t n:=by
 cases v with
 | agg cs=>exact congrArg AV.agg (q8w cs t n t' n')
 | fn f cs=>exact congrArg (AV.fn f) (q8w cs t n t' n')
 | tup vs =>
  refine congrArg AV.tup ?_;rw [y4,y4];exact yq fun x _=>kill1_comm x t n t' n'
 | ptr a b o=>by_cases h1:(a=t/\b=n) <;> by_cases h2:(a=t'/\b=n') <;> first | (simp only [AV.kill,AV.kill0,if_pos h1,if_pos h2]; done) | (simp only [AV.kill,AV.kill0,if_pos h1,if_neg h2]; done) | (simp only [AV.kill,AV.kill0,if_neg h1,if_pos h2]; done) | (simp only [AV.kill,AV.kill0,if_neg h1,if_neg h2]; done)
 | ref a b z o l c=>by_cases h1:(a=t/\b=n) <;> by_cases h2:(a=t'/\b=n') <;> first | (simp only [AV.kill,AV.kill0,if_pos h1,if_pos h2]; done) | (simp only [AV.kill,AV.kill0,if_pos h1,if_neg h2]; done) | (simp only [AV.kill,AV.kill0,if_neg h1,if_pos h2]; done) | (simp only [AV.kill,AV.kill0,if_neg h1,if_neg h2]; done)
 | mp a b=>by_cases h1:(a=t/\b=n) <;> by_cases h2:(a=t'/\b=n') <;> first | (simp only [AV.kill,AV.kill0,if_pos h1,if_pos h2]; done) | (simp only [AV.kill,AV.kill0,if_pos h1,if_neg h2]; done) | (simp only [AV.kill,AV.kill0,if_neg h1,if_pos h2]; done) | (simp only [AV.kill,AV.kill0,if_neg h1,if_neg h2]; done)
 | _=>rfl
theorem lowV_killed {m t n:Nat} {v:AV} (hv:lowV m v):lowV m (v.kill t n):=fun t' n' h=>by rw [kill_comm,hv t' n' h]
def LowE (m:Nat) (e:Nat->Slot):Prop:=∀ t,lowV m (e t).v
def LowM (m:Nat) (M:Nat->Nat->Option (List Slot)):Prop:=∀ t n r,M t n=some r->∀ x∈r,lowV m x.v
def q24 (m:Nat) (M0 M:Nat->Nat->Option (List Slot)):Prop:=∀ t n,n<m->M t n=M0 t n
theorem LowE.put {m:Nat} {e:Nat->Slot} {d:Nat} {x:Slot} (h:LowE m e) (hx:lowV m x.v):LowE m (putE e d x):=fun t=>by
 rw [q3X];split
 ·exact hx
 ·exact h t
theorem LowE.mono {m m':Nat} (hm:m<=m') {e:Nat->Slot} (h:LowE m e):LowE m' e:=fun t=>q4W hm (h t)
theorem LowE.kill {m:Nat} {e:Nat->Slot} (h:LowE m e) {t n:Nat}:LowE m (killE t n e):=fun j=>by
 rw [q0x,Slot.kill_v];exact lowV_killed (h j)
theorem LowE.same {m:Nat} {e:Nat->Slot} (h:LowE m e) {t n:Nat} (hn:m<=n):killE t n e=e:=funext fun j=>by
 rw [q0x];show (⟨(e j).v.kill t n,(e j).a⟩:Slot)=e j;rw [lowV_kill hn (h j)]
theorem LowM.set {m:Nat} {M:Nat->Nat->Option (List Slot)} {t n:Nat} {r:List Slot} (h:LowM m M) (hr:∀ x∈r,lowV m x.v):LowM m (setM M t n r):=fun t' n' r' he=>by
 rw [q0z] at he;split at he
 ·injection he with he; subst he; exact hr
 ·exact h t' n' r' he
theorem LowM.mono {m m':Nat} (hm:m<=m') {M:Nat->Nat->Option (List Slot)} (h:LowM m M):LowM m' M:=fun t n r he x hx=>q4W hm (h t n r he x hx)
theorem LowM.kill {m:Nat} {M:Nat->Nat->Option (List Slot)} (h:LowM m M) {t n:Nat}:LowM m (killM t n M):=fun t' n' r' he x hx=>by
 rw [q0B] at he;split at he
 ·cases he
 ·obtain ⟨r,hr,rfl⟩:=yh.1 he;obtain ⟨y,hy,rfl⟩:=yz.1 hx;rw [Slot.kill_v];exact lowV_killed (h t' n' r hr y hy)
theorem q24.refl {m:Nat} {M:Nat->Nat->Option (List Slot)}:q24 m M M:=fun _ _ _=>rfl
theorem q24.set {m:Nat} {M0 M:Nat->Nat->Option (List Slot)} {t n:Nat} {r:List Slot} (h:q24 m M0 M) (hn:m<=n):q24 m M0 (setM M t n r):=fun t' n' h'=>by
 rw [q0z,if_neg (by omega)];exact h t' n' h'
theorem q24.kill {m:Nat} {M0 M:Nat->Nat->Option (List Slot)} (h:q24 m M0 M) (h0:LowM m M0) {t n:Nat} (hn:m<=n):q24 m M0 (killM t n M):=fun t' n' h'=>by
 rw [q0B,if_neg (by omega),h t' n' h'];cases hr:M0 t' n' with
 | none=>rfl
 | some r =>
  refine congrArg some ?_;have:r.map (Slot.kill t n)=r.map id:=yq fun x hx=>by
   show (⟨x.v.kill t n,x.a⟩:Slot)=x;rw [lowV_kill hn (h0 t' n' r hr x hx)]
  rwa [List.map_id] at this
theorem low_row {m:Nat} {l:List (List AV)} (h:∀ c∈l,∀ v∈c,low0 m v) (h2:∀ c∈l,∀ v∈c,v.leaf=true):∀ x∈q0g l,lowV m x.v:=fun x hx=>by
 obtain ⟨v,hv,rfl⟩:=yz.1 hx;obtain ⟨c,hc,hv⟩:=List.mem_flatten.1 hv;exact lowV_of (h c hc v hv) (h2 c hc v hv)
theorem free0_leaf {v:AV} (h:v.free0=true):v.leaf=true:=by
 cases v <;> first | rfl | (simp [AV.free0] at h; done)
theorem q2o {m:Nat} {l:List (List AV)} (h:q2t l=true):∀ x∈q0g l,lowV m x.v :=
 low_row (fun c hc v hv=>q98 (y6.1 (y6.1 h c hc) v hv)) (fun c hc v hv=>free0_leaf (y6.1 (y6.1 h c hc) v hv))
structure Calm (m:Nat) (s0 s:MSt):Prop where
 mem:q24 m s0.mem s.mem
 gh:s.gh=s0.gh
 obj:s.obj=s0.obj
 next:m<=s.next
 low:LowM s.next s.mem
section
set_option maxHeartbeats 4000000
def q9E (id:Int):ByteArray:=⟨#[109]⟩++Utf8.encode (97 + id)
def q74 (l:List Nde) (i id:Int) (p:Prt):Bool:=decide (1 + p.id % 12=id/\0<=tgtZ l i p.ty)
def memZ (l:List Nde) (i:Int) (rc:Bool) (id:Int) (p:Prt):Mem :=
 ⟨id,q9E id,tgtZ l i p.ty,rc&&decide (p.flag % 4=1),rc&&decide (2<=p.flag % 4)&&(q7k l (tgtZ l i p.ty) (p.flag / 4)).2,if (rc&&decide (2<=p.flag % 4))=true then (q7k l (tgtZ l i p.ty) (p.flag / 4)).1 else Vl.zero⟩
def memAt (l:List Nde) (i:Int) (rc:Bool) (id:Int) (ps:List Prt):List Mem:=match ps.find? (q74 l i id) with
 | some p=>[memZ l i rc id p]
 | none=>[]
def q5S (l:List Nde) (i:Int) (rc:Bool) (ps:List Prt):Nat->List Mem
 | 0=>[]
 | n + 1=>q5S l i rc ps n++memAt l i rc ((n + 1:Nat):Int) ps
def q3i (l:List Nde) (i:Int) (rc:Bool) (ps:List Prt):List Mem:=q5S l i rc ps 12
theorem memAt_len (l:List Nde) (i:Int) (rc:Bool) (id:Int) (ps:List Prt):(memAt l i rc id ps).length<=1:=by
 unfold memAt;split <;> simp
theorem q78 (l:List Nde) (i:Int) (rc:Bool) (ps:List Prt):∀ n,(q5S l i rc ps n).length<=n
 | 0=>ym _
 | n + 1=>by
  have:=q78 l i rc ps n;have:=memAt_len l i rc ((n + 1:Nat):Int) ps;rw [q5S,yu];omega
def ListI (n0:Nat) (ms:List Mem) (x:Slot) (s:MSt):Prop :=
 (ms=[]/\x.v=.sl true []/\x.a=.ex)\/∃ N,ms≠[]/\n0<=N/\N<s.next/\x.v=.ref 88 N 13 0 ms.length ms.length/\s.mem 88 N=some (q0g (ms.map memC))
structure q7e (n0:Nat) (s0:MSt) (dn:Bool) (l:List Nde) (i0:Int) (rc:Bool) (x:Nde) (id:Int) (ms:List Mem) (s:MSt):Prop where
 e1:(s.env 1).v=.int .i64 i0
 e2:(s.env 2).v=.bool rc
 e3:(s.env 3).v=.ptr 3 n0 0
 m3:s.mem 3 n0=some [⟨.sl dn (l.map ndeC),.no⟩]
 e7:(s.env 7).v=.ptr 7 (n0 + 1) 0
 m7:s.mem 7 (n0 + 1)=some [⟨.int .u8 x.k,.no⟩,⟨.int .u8 x.a,.no⟩,⟨.int .u8 x.b,.no⟩,⟨.int .u8 x.c,.no⟩,⟨.sl x.pn (x.parts.map prtC),.no⟩]
 e9:(s.env 9).v=.int .i64 id
 lst:ListI n0 ms (s.env 8) s
 calm:Calm n0 s0 s
 lt:n0 + 1<s.next
theorem ListI.of {n0:Nat} {ms:List Mem} {x x':Slot} {s s':MSt} (h:ListI n0 ms x s) (hx:x'=x) (hm:∀ N,s'.mem 88 N=s.mem 88 N) (hn:s.next<=s'.next):ListI n0 ms x' s':=by
 subst hx;rcases h with h | ⟨N,h1,h2,h3,h4,h5⟩
 ·exact .inl h
 ·exact .inr ⟨N,h1,h2,yX h3 hn,h4,(hm N).trans h5⟩
theorem q05 {m:Nat} {r:List Slot} (h:r.all (fun x=>x.v.free)=true):∀ x∈r,lowV m x.v:=fun x hx=>q7M (y6.1 h x hx)
theorem enc_size (n:Int):(Utf8.encode n).size<=4:=by
 unfold Utf8.encode;dsimp only;generalize (if Utf8.valid n=true then n.toNat else Utf8.runeError)=c;split
 ·exact (by decide:(1:Nat)<=4)
 ·split
  ·exact (by decide:(2:Nat)<=4)
  ·split
   ·exact (by decide:(3:Nat)<=4)
   ·exact (by decide:(4:Nat)<=4)
theorem i32_in (n:Int) (h:-2147483648<=n/\n<=2147483647):IntKind.i32.wrap n=n:=by
 simp [IntKind.wrap,IntKind.bits,IntKind.signed];omega
theorem parts_in {r:RV} {n0:Nat} {s0:MSt} {dn:Bool} {l:List Nde} (hl:oks l) {i0:Int} (hi0:0<=i0) (hi1:i0<l.length) {rc:Bool} {x:Nde} (hx:x.ok) (hM:LowM n0 s0.mem) (hG:LowE n0 s0.gh) {id:Int} (hid:1<=id/\id<=12) {ms:List Mem} (hms:ms.length<=12) (s:MSt) (k:Ex->MSt->Option RV) (h:q7e n0 s0 dn l i0 rc x id ms s) (h10:(s.env 10).v=.int .i64 0)
  (hk:∀ s',q7e n0 s0 dn l i0 rc x id (ms++memAt l i0 rc id x.parts) s'->k (.exit 2) s'=some r):evL allT q01 q0u s k=some r:=by
 refine q0f x.parts.length (fun j s=>q7e n0 s0 dn l i0 rc x id ms s/\(s.env 10).v=.int .i64 j/\(x.parts.drop j).find? (q74 l i0 id)=x.parts.find? (q74 l i0 id))
  (fun e s=>e=.exit 2/\q7e n0 s0 dn l i0 rc x id (ms++memAt l i0 rc id x.parts) s) (fun j hj s k h ih hk=>?_) s k ⟨h,by simpa using h10,rfl⟩ (fun e s h=>by obtain ⟨rfl,h⟩:=h; exact hk s h)
 obtain ⟨⟨e1,e2,e3,m3,e7,m7,e9,lst,calm,lt⟩,e10,hf⟩:=h;have hpl:=hx.2.2.2.2.1;refine q04 ?_;by_cases hlt:j<x.parts.length
 ·have hlt':(j:Int)<x.parts.length:=by omega
  have hwj:=q11 (i:=j) (by omega);have hp:=hx.2.2.2.2.2 _ (y8 hlt);have g1:(x.parts.map prtC)[j]?=some (prtC x.parts[j]):=by simp [hlt]
  rw [yc hlt,List.find?_cons] at hf;generalize x.parts[j]=p at *
  simp only [prtC] at g1;have htg:=target_ev dn l hl i0 hi0 hi1 p.ty hp.2.1;have hti:=q9r hl i0 p.ty hi1;have hini:=fun ht0=>initial_ev dn l hl (tgtZ l i0 p.ty) ht0 hti.2 (p.flag / 4) ⟨by have:=hp.2.2.1; omega,by have:=hp.2.2.2; omega⟩
  simp only [evA,dftC] at htg hini;have hd12:p.id.tmod 12=p.id % 12:=yw hp.1.1;have hw1:IntKind.i64.wrap (p.id % 12)=p.id % 12:=IntWalk.i64_in _ (by omega);have hw2:IntKind.i64.wrap (1 + p.id % 12)=1 + p.id % 12:=IntWalk.i64_in _ (by omega);have hwid:IntKind.i64.wrap id=id:=IntWalk.i64_in _ (by omega);obtain ⟨z,hz⟩:∃ z:Int,z=j:=⟨_,rfl⟩;have hz0:0<=z:=by omega
  have hwz:IntKind.i64.wrap (z + 1)=((j + 1:Nat):Int):=by rw [hz]; exact hwj
  rw [<- hz] at e10 hlt';rw [show j=z.toNat from by omega] at g1;have calm':=calm;obtain ⟨cm,cg,co,cn,cl⟩:=calm;have next:∀ s',q7e n0 s0 dn l i0 rc x id ms s'->(s'.env 10).v=.int .i64 ((j + 1:Nat):Int)->q74 l i0 id p=false->evL allT q01 q0u s' k=some r:=fun s' h1 h2 h3=>by
   rw [h3] at hf;exact ih hlt s' ⟨h1,h2,hf⟩
  by_cases c1:1 + p.id % 12=id
  ·by_cases c2:tgtZ l i0 p.ty<0
   ·have hnp:q74 l i0 id p=false:=by simp [q74,c1]; omega
    simp [q0u,-y0,-y5,-y4,y3,e1,e2,e3,m3,e7,m7,e9,e10,hlt',g1,hz0,htg,hd12,hw1,hw2,c1,c2,hwz,hwid];refine next _ ⟨?_,?_,?_,?_,?_,?_,?_,lst.of ?_ ?_ ?_,⟨?_,?_,?_,?_,?_⟩,?_⟩ ?_ hnp
    ·simp [e1]
    ·simp [e2]
    ·simp [e3]
    ·simp [q0z,m3]
    ·simp [e7]
    ·simp [q0z,m7]
    ·simp [e9]
    ·simp
    ·intro N; simp [q0z]
    ·simp only; omega
    ·exact (cm.set (by omega)).set (by omega)
    ·exact cg
    ·exact co
    ·simp only; omega
    ·exact ((cl.mono (by dsimp only; omega)).set (q05 (by simp [AV.free,AV.free0]))).set (q05 (by simp [AV.free,AV.free0]))
    ·simp only; omega
    ·simp
   ·have hip:q74 l i0 id p=true:=by simp [q74,c1]; omega
    rw [hip] at hf;have hma:memAt l i0 rc id x.parts=[memZ l i0 rc id p]:=by rw [memAt,<- hf]
    rw [hma] at hk;have hini:=hini (by omega);have hq4:p.flag.tmod 4=p.flag % 4:=yw hp.2.2.1;have hv4:p.flag.tdiv 4=p.flag / 4:=Int.tdiv_eq_ediv_of_nonneg hp.2.2.1;have hw4:IntKind.u8.wrap (p.flag / 4)=p.flag / 4:=by have:=hp.2.2.1; have:=hp.2.2.2; simp [IntKind.wrap,IntKind.bits,IntKind.signed]; omega
    have hwn:IntKind.i64.wrap (97 + id)=97 + id:=IntWalk.i64_in _ (by omega);have hwr:IntKind.i32.wrap (97 + id)=97 + id:=i32_in _ (by omega);have hes:=enc_size (97 + id);have hsz:(⟨#[109]⟩:ByteArray).size=1:=rfl;have hnm:(⟨#[109]⟩:ByteArray).size + (Utf8.encode (97 + id)).size<=9223372036854775807:=by omega
    unfold memZ q9E at hk;generalize hE:Utf8.encode (97 + id)=nm at *
    generalize q7k l (tgtZ l i0 p.ty) (p.flag / 4)=iz at *
    obtain ⟨iv,ib⟩:=iz;simp only [q03] at hini;generalize tgtZ l i0 p.ty=t at *
    rcases lst with ⟨lm,l1,l2⟩ | ⟨N,lm,l1,l2,l3,l4⟩
    ·subst lm;have hroom:q10 160 1=true:=by rw [q0l]; omega
     cases rc with
     | false =>
      simp [q0u,-y0,-y5,-y4,y3,e1,e2,e3,m3,e7,m7,e9,e10,hlt',g1,hz0,htg,hd12,hw1,hw2,c1,c2,hwid,hwn,hwr,hE,hnm,l1,hroom,l2];refine hk _ _ ⟨rfl,?_,?_,?_,?_,?_,?_,?_,.inr ⟨s.next + 1 + 1 + 1 + 1 + 1 + 1 + 1,?_,?_,?_,?_,?_⟩,⟨?_,?_,?_,?_,?_⟩,?_⟩
      ·simp [e1]
      ·simp [e2]
      ·simp [e3]
      ·simp [q0z,m3]
      ·simp [e7]
      ·simp [q0z,m7]
      ·simp [e9]
      ·simp
      ·omega
      ·dsimp only; omega
      ·simp
      ·simp [q0z,memC,Vl.zero,Vl.kind,Vl.b,Vl.i,Vl.s,Vl.id,Vl.kn,Vl.keys,Vl.xn,Vl.items,Vl.rn,Vl.rest]
      ·repeat (first | exact cm | refine q24.set ?_ (by omega) | refine q24.kill ?_ hM (by omega))
      ·exact cg
      ·exact co
      ·dsimp only; omega
      ·exact (((((cl.mono (by dsimp only; omega)).set (q05 (by simp [AV.free,AV.free0]))).set (q05 (by simp [AV.free,AV.free0]))).set (q05 (by simp [AV.free,AV.free0]))).set (q05 (by simp [AV.free,AV.free0]))).set (q2o (by simp [q2t,AV.free0,memC]))
      ·dsimp only; omega
     | true =>
      by_cases f1:p.flag % 4=1
      ·simp [q0u,-y0,-y5,-y4,y3,e1,e2,e3,m3,e7,m7,e9,e10,hlt',g1,hz0,htg,hd12,hw1,hw2,c1,c2,hwid,hwn,hwr,hE,hnm,l1,hroom,l2,hq4,f1];refine hk _ _ ⟨rfl,?_,?_,?_,?_,?_,?_,?_,.inr ⟨s.next + 1 + 1 + 1 + 1 + 1 + 1 + 1 + 1,?_,?_,?_,?_,?_⟩,⟨?_,?_,?_,?_,?_⟩,?_⟩
       ·simp [e1]
       ·simp [e2]
       ·simp [e3]
       ·simp [q0z,m3]
       ·simp [e7]
       ·simp [q0z,m7]
       ·simp [e9]
       ·simp
       ·omega
       ·dsimp only; omega
       ·simp
       ·simp [q0z,memC,Vl.zero,Vl.kind,Vl.b,Vl.i,Vl.s,Vl.id,Vl.kn,Vl.keys,Vl.xn,Vl.items,Vl.rn,Vl.rest,f1]
       ·repeat (first | exact cm | refine q24.set ?_ (by omega) | refine q24.kill ?_ hM (by omega))
       ·exact cg
       ·exact co
       ·dsimp only; omega
       ·exact ((((((cl.mono (by dsimp only; omega)).set (q05 (by simp [AV.free,AV.free0]))).set (q05 (by simp [AV.free,AV.free0]))).set (q05 (by simp [AV.free,AV.free0]))).set (q05 (by simp [AV.free,AV.free0]))).set (q05 (by simp [AV.free,AV.free0]))).set (q2o (by simp [q2t,AV.free0,memC]))
       ·dsimp only; omega
      ·by_cases f2:2<=p.flag % 4
       ·simp [q0u,-y0,-y5,-y4,y3,e1,e2,e3,m3,e7,m7,e9,e10,hlt',g1,hz0,htg,hd12,hw1,hw2,c1,c2,hwid,hwn,hwr,hE,hnm,l1,hroom,l2,hq4,f1,f2,hv4,hw4,hini];refine hk _ _ ⟨rfl,?_,?_,?_,?_,?_,?_,?_,.inr ⟨s.next + 1 + 1 + 1 + 1 + 1 + 1 + 1 + 1,?_,?_,?_,?_,?_⟩,⟨?_,?_,?_,?_,?_⟩,?_⟩
        ·simp [e1]
        ·simp [e2]
        ·simp [e3]
        ·simp [q0z,m3]
        ·simp [e7]
        ·simp [q0z,m7]
        ·simp [e9]
        ·simp
        ·omega
        ·dsimp only; omega
        ·simp
        ·simp [q0z,memC,Vl.zero,Vl.kind,Vl.b,Vl.i,Vl.s,Vl.id,Vl.kn,Vl.keys,Vl.xn,Vl.items,Vl.rn,Vl.rest,f1,f2]
        ·repeat (first | exact cm | refine q24.set ?_ (by omega) | refine q24.kill ?_ hM (by omega))
        ·exact cg
        ·exact co
        ·dsimp only; omega
        ·exact (((((((cl.mono (by dsimp only; omega)).set (q05 (by simp [AV.free,AV.free0]))).set (q05 (by simp [AV.free,AV.free0]))).set (q05 (by simp [AV.free,AV.free0]))).set (q05 (by simp [AV.free,AV.free0]))).set (q05 (by simp [AV.free,AV.free0]))).set (q05 (by simp [AV.free,AV.free0]))).set (q2o (by simp [q2t,AV.free0,memC]))
        ·dsimp only; omega
       ·simp [q0u,-y0,-y5,-y4,y3,e1,e2,e3,m3,e7,m7,e9,e10,hlt',g1,hz0,htg,hd12,hw1,hw2,c1,c2,hwid,hwn,hwr,hE,hnm,l1,hroom,l2,hq4,f1,f2];refine hk _ _ ⟨rfl,?_,?_,?_,?_,?_,?_,?_,.inr ⟨s.next + 1 + 1 + 1 + 1 + 1 + 1 + 1,?_,?_,?_,?_,?_⟩,⟨?_,?_,?_,?_,?_⟩,?_⟩
        ·simp [e1]
        ·simp [e2]
        ·simp [e3]
        ·simp [q0z,m3]
        ·simp [e7]
        ·simp [q0z,m7]
        ·simp [e9]
        ·simp
        ·omega
        ·dsimp only; omega
        ·simp
        ·simp [q0z,memC,Vl.zero,Vl.kind,Vl.b,Vl.i,Vl.s,Vl.id,Vl.kn,Vl.keys,Vl.xn,Vl.items,Vl.rn,Vl.rest,f1,f2]
        ·repeat (first | exact cm | refine q24.set ?_ (by omega) | refine q24.kill ?_ hM (by omega))
        ·exact cg
        ·exact co
        ·dsimp only; omega
        ·exact (((((cl.mono (by dsimp only; omega)).set (q05 (by simp [AV.free,AV.free0]))).set (q05 (by simp [AV.free,AV.free0]))).set (q05 (by simp [AV.free,AV.free0]))).set (q05 (by simp [AV.free,AV.free0]))).set (q2o (by simp [q2t,AV.free0,memC]))
        ·dsimp only; omega
    ·have hml:(ms.map memC).length=ms.length:=by simp
     have hroom:q10 160 (ms.length + 1)=true:=by rw [q0l]; omega
     have hels:=els_mem ms;have hfr:q2t (ms.map memC)=true:=q73 memC ms fun m=>by simp [memC,AV.free0]
     have hre:q3u (q0g (ms.map memC)) 13 0 ms.length=some (ms.map memC):=by have:=q5W hels hfr; rwa [hml] at this
     cases rc with
     | false =>
      simp [q0u,-y0,-y5,-y4,y3,e1,e2,e3,m3,e7,m7,e9,e10,hlt',g1,hz0,htg,hd12,hw1,hw2,c1,c2,hwid,hwn,hwr,hE,hnm,l3,hroom,l4,hre];refine hk _ _ ⟨rfl,?_,?_,?_,?_,?_,?_,?_,.inr ⟨s.next + 1 + 1 + 1 + 1 + 1 + 1 + 1,?_,?_,?_,?_,?_⟩,⟨?_,?_,?_,?_,?_⟩,?_⟩
      ·simp [q0x,q0B,Slot.kill_v,Slot.kill_mk,AV.kill,AV.kill0,e1]
      ·simp [q0x,q0B,Slot.kill_v,Slot.kill_mk,AV.kill,AV.kill0,e2]
      ·simp [q0x,q0B,Slot.kill_v,Slot.kill_mk,AV.kill,AV.kill0,e3]
      ·simp [q0x,q0B,Slot.kill_v,Slot.kill_mk,AV.kill,AV.kill0,q0z,m3]
      ·simp [q0x,q0B,Slot.kill_v,Slot.kill_mk,AV.kill,AV.kill0,e7]
      ·simp [q0x,q0B,Slot.kill_v,Slot.kill_mk,AV.kill,AV.kill0,q0z,m7]
      ·simp [q0x,q0B,Slot.kill_v,Slot.kill_mk,AV.kill,AV.kill0,e9]
      ·simp
      ·omega
      ·dsimp only; omega
      ·simp
      ·simp [q0z,memC,Vl.zero,Vl.kind,Vl.b,Vl.i,Vl.s,Vl.id,Vl.kn,Vl.keys,Vl.xn,Vl.items,Vl.rn,Vl.rest]
      ·repeat (first | exact cm | refine q24.set ?_ (by omega) | refine q24.kill ?_ hM (by omega))
      ·dsimp only; rw [cg]; exact hG.same (by omega)
      ·exact co
      ·dsimp only; omega
      ·exact ((((((cl.mono (by dsimp only; omega)).set (q05 (by simp [AV.free,AV.free0]))).set (q05 (by simp [AV.free,AV.free0]))).set (q05 (by simp [AV.free,AV.free0]))).set (q05 (by simp [AV.free,AV.free0]))).kill).set (q2o (by simp [q2t,AV.free0,memC]))
      ·dsimp only; omega
     | true =>
      by_cases f1:p.flag % 4=1
      ·simp [q0u,-y0,-y5,-y4,y3,e1,e2,e3,m3,e7,m7,e9,e10,hlt',g1,hz0,htg,hd12,hw1,hw2,c1,c2,hwid,hwn,hwr,hE,hnm,l3,hroom,l4,hre,hq4,f1];refine hk _ _ ⟨rfl,?_,?_,?_,?_,?_,?_,?_,.inr ⟨s.next + 1 + 1 + 1 + 1 + 1 + 1 + 1 + 1,?_,?_,?_,?_,?_⟩,⟨?_,?_,?_,?_,?_⟩,?_⟩
       ·simp [q0x,q0B,Slot.kill_v,Slot.kill_mk,AV.kill,AV.kill0,e1]
       ·simp [q0x,q0B,Slot.kill_v,Slot.kill_mk,AV.kill,AV.kill0,e2]
       ·simp [q0x,q0B,Slot.kill_v,Slot.kill_mk,AV.kill,AV.kill0,e3]
       ·simp [q0x,q0B,Slot.kill_v,Slot.kill_mk,AV.kill,AV.kill0,q0z,m3]
       ·simp [q0x,q0B,Slot.kill_v,Slot.kill_mk,AV.kill,AV.kill0,e7]
       ·simp [q0x,q0B,Slot.kill_v,Slot.kill_mk,AV.kill,AV.kill0,q0z,m7]
       ·simp [q0x,q0B,Slot.kill_v,Slot.kill_mk,AV.kill,AV.kill0,e9]
       ·simp
       ·omega
       ·dsimp only; omega
       ·simp
       ·simp [q0z,memC,Vl.zero,Vl.kind,Vl.b,Vl.i,Vl.s,Vl.id,Vl.kn,Vl.keys,Vl.xn,Vl.items,Vl.rn,Vl.rest,f1]
       ·repeat (first | exact cm | refine q24.set ?_ (by omega) | refine q24.kill ?_ hM (by omega))
       ·dsimp only; rw [cg]; exact hG.same (by omega)
       ·exact co
       ·dsimp only; omega
       ·exact (((((((cl.mono (by dsimp only; omega)).set (q05 (by simp [AV.free,AV.free0]))).set (q05 (by simp [AV.free,AV.free0]))).set (q05 (by simp [AV.free,AV.free0]))).set (q05 (by simp [AV.free,AV.free0]))).set (q05 (by simp [AV.free,AV.free0]))).kill).set (q2o (by simp [q2t,AV.free0,memC]))
       ·dsimp only; omega
      ·by_cases f2:2<=p.flag % 4
       ·simp [q0u,-y0,-y5,-y4,y3,e1,e2,e3,m3,e7,m7,e9,e10,hlt',g1,hz0,htg,hd12,hw1,hw2,c1,c2,hwid,hwn,hwr,hE,hnm,l3,hroom,l4,hre,hq4,f1,f2,hv4,hw4,hini];refine hk _ _ ⟨rfl,?_,?_,?_,?_,?_,?_,?_,.inr ⟨s.next + 1 + 1 + 1 + 1 + 1 + 1 + 1 + 1,?_,?_,?_,?_,?_⟩,⟨?_,?_,?_,?_,?_⟩,?_⟩
        ·simp [q0x,q0B,Slot.kill_v,Slot.kill_mk,AV.kill,AV.kill0,e1]
        ·simp [q0x,q0B,Slot.kill_v,Slot.kill_mk,AV.kill,AV.kill0,e2]
        ·simp [q0x,q0B,Slot.kill_v,Slot.kill_mk,AV.kill,AV.kill0,e3]
        ·simp [q0x,q0B,Slot.kill_v,Slot.kill_mk,AV.kill,AV.kill0,q0z,m3]
        ·simp [q0x,q0B,Slot.kill_v,Slot.kill_mk,AV.kill,AV.kill0,e7]
        ·simp [q0x,q0B,Slot.kill_v,Slot.kill_mk,AV.kill,AV.kill0,q0z,m7]
        ·simp [q0x,q0B,Slot.kill_v,Slot.kill_mk,AV.kill,AV.kill0,e9]
        ·simp
        ·omega
        ·dsimp only; omega
        ·simp
        ·simp [q0z,memC,Vl.zero,Vl.kind,Vl.b,Vl.i,Vl.s,Vl.id,Vl.kn,Vl.keys,Vl.xn,Vl.items,Vl.rn,Vl.rest,f1,f2]
        ·repeat (first | exact cm | refine q24.set ?_ (by omega) | refine q24.kill ?_ hM (by omega))
        ·dsimp only; rw [cg]; exact hG.same (by omega)
        ·exact co
        ·dsimp only; omega
        ·exact ((((((((cl.mono (by dsimp only; omega)).set (q05 (by simp [AV.free,AV.free0]))).set (q05 (by simp [AV.free,AV.free0]))).set (q05 (by simp [AV.free,AV.free0]))).set (q05 (by simp [AV.free,AV.free0]))).set (q05 (by simp [AV.free,AV.free0]))).set (q05 (by simp [AV.free,AV.free0]))).kill).set (q2o (by simp [q2t,AV.free0,memC]))
        ·dsimp only; omega
       ·simp [q0u,-y0,-y5,-y4,y3,e1,e2,e3,m3,e7,m7,e9,e10,hlt',g1,hz0,htg,hd12,hw1,hw2,c1,c2,hwid,hwn,hwr,hE,hnm,l3,hroom,l4,hre,hq4,f1,f2];refine hk _ _ ⟨rfl,?_,?_,?_,?_,?_,?_,?_,.inr ⟨s.next + 1 + 1 + 1 + 1 + 1 + 1 + 1,?_,?_,?_,?_,?_⟩,⟨?_,?_,?_,?_,?_⟩,?_⟩
        ·simp [q0x,q0B,Slot.kill_v,Slot.kill_mk,AV.kill,AV.kill0,e1]
        ·simp [q0x,q0B,Slot.kill_v,Slot.kill_mk,AV.kill,AV.kill0,e2]
        ·simp [q0x,q0B,Slot.kill_v,Slot.kill_mk,AV.kill,AV.kill0,e3]
        ·simp [q0x,q0B,Slot.kill_v,Slot.kill_mk,AV.kill,AV.kill0,q0z,m3]
        ·simp [q0x,q0B,Slot.kill_v,Slot.kill_mk,AV.kill,AV.kill0,e7]
        ·simp [q0x,q0B,Slot.kill_v,Slot.kill_mk,AV.kill,AV.kill0,q0z,m7]
        ·simp [q0x,q0B,Slot.kill_v,Slot.kill_mk,AV.kill,AV.kill0,e9]
        ·simp
        ·omega
        ·dsimp only; omega
        ·simp
        ·simp [q0z,memC,Vl.zero,Vl.kind,Vl.b,Vl.i,Vl.s,Vl.id,Vl.kn,Vl.keys,Vl.xn,Vl.items,Vl.rn,Vl.rest,f1,f2]
        ·repeat (first | exact cm | refine q24.set ?_ (by omega) | refine q24.kill ?_ hM (by omega))
        ·dsimp only; rw [cg]; exact hG.same (by omega)
        ·exact co
        ·dsimp only; omega
        ·exact ((((((cl.mono (by dsimp only; omega)).set (q05 (by simp [AV.free,AV.free0]))).set (q05 (by simp [AV.free,AV.free0]))).set (q05 (by simp [AV.free,AV.free0]))).set (q05 (by simp [AV.free,AV.free0]))).kill).set (q2o (by simp [q2t,AV.free0,memC]))
        ·dsimp only; omega
  ·have hnp:q74 l i0 id p=false:=by simp [q74,c1]
   simp [q0u,-y0,-y5,-y4,y3,e1,e2,e3,m3,e7,m7,e9,e10,hlt',g1,hz0,htg,hd12,hw1,hw2,c1,hwz];refine next _ ⟨?_,?_,?_,?_,?_,?_,?_,lst.of ?_ ?_ ?_,⟨?_,?_,?_,?_,?_⟩,?_⟩ ?_ hnp
   ·simp [e1]
   ·simp [e2]
   ·simp [e3]
   ·simp [q0z,m3]
   ·simp [e7]
   ·simp [q0z,m7]
   ·simp [e9]
   ·simp
   ·intro N; simp [q0z]
   ·simp only; omega
   ·exact (cm.set (by omega)).set (by omega)
   ·exact cg
   ·exact co
   ·simp only; omega
   ·exact ((cl.mono (by dsimp only; omega)).set (q05 (by simp [AV.free,AV.free0]))).set (q05 (by simp [AV.free,AV.free0]))
   ·simp only; omega
   ·simp
 ·have hlt':¬ (j:Int)<x.parts.length:=by omega
  simp [q0u,-y0,-y5,-y4,y3,e7,m7,e10,hlt];rw [yg (by omega),List.find?_nil] at hf;have hnil:memAt l i0 rc id x.parts=[]:=by rw [memAt,<- hf]
  refine hk _ _ ⟨rfl,?_⟩;rw [hnil,List.append_nil];obtain ⟨cm,cg,co,cn,cl⟩:=calm;refine ⟨?_,?_,?_,?_,?_,?_,?_,lst.of ?_ ?_ ?_,⟨?_,?_,?_,?_,?_⟩,?_⟩
  ·simp [e1]
  ·simp [e2]
  ·simp [e3]
  ·simp [m3]
  ·simp [e7]
  ·simp [m7]
  ·simp [e9]
  ·simp
  ·intro N; simp
  ·simp
  ·exact cm
  ·exact cg
  ·exact co
  ·simp only; omega
  ·exact cl.mono (by dsimp only; omega)
  ·simp only; omega
end
section
set_option maxHeartbeats 4000000
theorem q7e.of {n0:Nat} {s0:MSt} {dn:Bool} {l:List Nde} {i0:Int} {rc:Bool} {x:Nde} {id id':Int} {ms:List Mem} {s s':MSt} (h:q7e n0 s0 dn l i0 rc x id ms s)
  (h1:(s'.env 1).v=(s.env 1).v) (h2:(s'.env 2).v=(s.env 2).v) (h3:(s'.env 3).v=(s.env 3).v) (h7:(s'.env 7).v=(s.env 7).v) (h8:s'.env 8=s.env 8) (h9:(s'.env 9).v=.int .i64 id') (hm:s'.mem=s.mem) (hg:s'.gh=s.gh) (ho:s'.obj=s.obj) (hn:s.next<=s'.next):q7e n0 s0 dn l i0 rc x id' ms s':=by
 obtain ⟨e1,e2,e3,m3,e7,m7,e9,lst,⟨cm,cg,co,cn,cl⟩,lt⟩:=h;refine ⟨by rw [h1,e1],by rw [h2,e2],by rw [h3,e3],by rw [hm,m3],by rw [h7,e7],by rw [hm,m7],h9,lst.of h8 (fun N=>by rw [hm]) hn,⟨by rw [hm]; exact cm,by rw [hg,cg],by rw [ho,co],by omega,by rw [hm]; exact cl.mono hn⟩,by omega⟩
theorem parts_ev {r:RV} {dn:Bool} {l:List Nde} (hl:oks l) {i0:Int} (hi0:0<=i0) (hi1:i0<l.length) {rc:Bool} {x:Nde} (hx:l[i0.toNat]?=some x) {a1 a2 a3:An} (s0:MSt) (hM:LowM s0.next s0.mem) (hG:LowE s0.next s0.gh) (k:Slot->MSt->Option RV)
  (hk:∀ y s',Calm s0.next s0 s'->ListI s0.next (q3i l i0 rc x.parts) y s'->k y s'=some r):evH allT q01 92 [⟨.agg (dftC dn l),a1⟩,⟨.int .i64 i0,a2⟩,⟨.bool rc,a3⟩] s0 k=some r:=by
 refine evH_intro q5l rfl rfl ?_;have hxo:x.ok:=hl.2.2 _ (yo hx);have g:(l.map ndeC)[i0.toNat]?=some (ndeC x):=by simp [hx]
 simp only [ndeC] at g;simp [q5l,dftC,-y0,-y5,-y4,y3,g,hi0];refine q0f 12 (fun i s=>q7e s0.next s0 dn l i0 rc x ((i + 1:Nat):Int) (q5S l i0 rc x.parts i) s)
  (fun e s=>e=.exit 0/\∃ id,q7e s0.next s0 dn l i0 rc x id (q3i l i0 rc x.parts) s) (fun i hi s k' h ih hk=>?_) _ _ ?_ (fun e s h=>?_)
 ·refine q04 ?_;by_cases hlt:i<12
  ·have hid:((i + 1:Nat):Int)<=12:=by omega
   have e9:=h.e9;have hw:IntKind.i64.wrap (((i + 1:Nat):Int) + 1)=((i + 1 + 1:Nat):Int):=q11 (by omega);obtain ⟨z,hz⟩:∃ z:Int,z=((i + 1:Nat):Int):=⟨_,rfl⟩;rw [<- hz] at e9 hid hw;simp [q52,-y0,-y5,-y4,y3,e9,hid];refine parts_in hl hi0 hi1 hxo hM hG (id:=z) (by omega) (yH (q78 l i0 rc x.parts i) hi) _ _ (h.of ?_ ?_ ?_ ?_ ?_ ?_ ?_ ?_ ?_ ?_) ?_ (fun s' h'=>?_)
   ·simp
   ·simp
   ·simp
   ·simp
   ·simp
   ·simp [e9]
   ·rfl
   ·rfl
   ·rfl
   ·dsimp only; omega
   ·simp
   ·have e9':=h'.e9;simp [-y0,-y5,-y4,y3,e9',hw];rw [hz] at h';refine ih hlt _ (q7e.of (ms:=q5S l i0 rc x.parts (i + 1)) h' ?_ ?_ ?_ ?_ ?_ ?_ ?_ ?_ ?_ ?_)
    ·simp
    ·simp
    ·simp
    ·simp
    ·simp
    ·simp
    ·rfl
    ·rfl
    ·rfl
    ·dsimp only; omega
  ·have hi12:i=12:=by omega
   subst hi12;have e9:=h.e9;simp at e9;simp [q52,-y0,-y5,-y4,y3,e9];refine hk _ _ ⟨rfl,13,q7e.of (id':=13) h ?_ ?_ ?_ ?_ ?_ ?_ ?_ ?_ ?_ ?_⟩
   ·simp
   ·simp
   ·simp
   ·simp
   ·simp
   ·simp [e9]
   ·rfl
   ·rfl
   ·rfl
   ·dsimp only; omega
 ·refine ⟨?_,?_,?_,?_,?_,?_,?_,.inl ⟨rfl,?_,?_⟩,⟨?_,?_,?_,?_,?_⟩,?_⟩
  ·simp
  ·simp
  ·simp
  ·simp [q0z]
  ·simp
  ·simp [q0z]
  ·simp
  ·simp
  ·simp
  ·exact (((q24.refl).set (by omega)).set (by omega)).set (by omega)
  ·rfl
  ·rfl
  ·dsimp only; omega
  ·exact (((hM.mono (by dsimp only; omega)).set (q05 (by simp [AV.free,AV.free0]))).set (q05 (by simp [AV.free,AV.free0]))).set (q05 (by simp [AV.free,AV.free0]))
  ·dsimp only; omega
 ·obtain ⟨rfl,id,h⟩:=h;obtain ⟨e1,e2,e3,m3,e7,m7,e9,lst,⟨cm,cg,co,cn,cl⟩,lt⟩:=h;simp [-y0,-y5,-y4,y3,finH,resS,packS];refine hk _ _ ⟨cm,cg,co,?_,cl.mono ?_⟩ (lst.of ?_ (fun N=>?_) ?_)
  ·dsimp only; omega
  ·dsimp only; omega
  ·rfl
  ·rfl
  ·dsimp only; omega
end
def qa0 (x:Slot):Prop:=∀ k,x.strip k=x
def PureE (e:Nat->Slot):Prop:=∀ t,qa0 (e t)
def PureM (m:Nat) (M:Nat->Nat->Option (List Slot)):Prop:=∀ t n r,n<m->M t n=some r->∀ x∈r,qa0 x
theorem qb6 (v:AV):qa0 ⟨v,.no⟩:=fun _=>rfl
theorem pureS_ex (v:AV):qa0 ⟨v,.ex⟩:=fun _=>rfl
theorem PureE.same {e:Nat->Slot} (h:PureE e) (k:Nat):stripE k e=e:=funext fun t=>by rw [stripE_at]; exact h t k
theorem stripM_val (k:Nat) (M:Nat->Nat->Option (List Slot)) (t n:Nat):stripM k M t n=(M t n).map (·.map (Slot.strip k)):=rfl
theorem q24.strip {m:Nat} {M0 M:Nat->Nat->Option (List Slot)} (h:q24 m M0 M) (h0:PureM m M0) (k:Nat):q24 m M0 (stripM k M):=fun t n hn=>by
 rw [stripM_val,h t n hn];cases hr:M0 t n with
 | none=>rfl
 | some r =>
  refine congrArg some ?_;have:r.map (Slot.strip k)=r.map id:=yq fun x hx=>h0 t n r hn hr x hx k
  rwa [List.map_id] at this
theorem LowM.strip {m:Nat} {M:Nat->Nat->Option (List Slot)} (h:LowM m M) (k:Nat):LowM m (stripM k M):=fun t n r he x hx=>by
 rw [stripM_val] at he;obtain ⟨r0,hr,rfl⟩:=yh.1 he;obtain ⟨y,hy,rfl⟩:=yz.1 hx;exact h t n r0 hr y hy
theorem LowE.strip {m:Nat} {e:Nat->Slot} (h:LowE m e) (k:Nat):LowE m (stripE k e):=fun t=>h t
theorem rowOf_kill {l:List (List AV)} (h:q2t l=true) (t n:Nat):(q0g l).map (Slot.kill t n)=q0g l:=by
 have:(q0g l).map (Slot.kill t n)=(q0g l).map id:=yq fun x hx=>by
  have:=q2o (m:=0) h x hx t n (Nat.zero_le _);show (⟨x.v.kill t n,x.a⟩:Slot)=x;rw [this]
 rwa [List.map_id] at this
def q7t (i:Int):ByteArray:=Utf8.encode (65 + i)
def sName (d:Int):ByteArray:=⟨#[115]⟩++Utf8.encode (97 + d)
def q6s (a:Int):List Sym:=(idsZ a).map fun d=>⟨d,sName d⟩
def Typ.of (k:Int) (nm:ByteArray):Typ:=⟨k,nm,0,0,0,true,[],true,[],0,0,false⟩
def typZ (l:List Nde) (i:Int):Typ :=
 let x:=ndAt l i
 let n:Int:=l.length
 match x.kind with
 | 1=>.of 1 ⟨#[]⟩
 | 2=>{ Typ.of 2 ⟨#[]⟩ with low:=x.low,high:=x.high }
 | 3=>{ Typ.of 3 ⟨#[]⟩ with max:=x.a % 4 }
 | 4=>{ Typ.of 4 (q7t i) with opn:=decide (x.b % 2=1),sn:=false,syms:=q6s x.a }
 | 5=>{ Typ.of 5 (q7t i) with mn:=(q3i l i true x.parts).isEmpty,mems:=q3i l i true x.parts }
 | 6=>if (q3i l i false x.parts).isEmpty=true then .of 5 (q7t i) else { Typ.of 6 (q7t i) with opn:=decide (x.b % 2=1),mn:=false,mems:=q3i l i false x.parts }
 | 7=>{ Typ.of 7 ⟨#[]⟩ with max:=x.a % 4,elem:=x.c % n }
 | 8=>if keyZ l x.b<0 then { Typ.of 7 ⟨#[]⟩ with max:=x.a % 4,elem:=x.c % n } else { Typ.of 8 ⟨#[]⟩ with max:=x.a % 4,key:=keyZ l x.b,elem:=x.c % n }
 | _=>{ Typ.of 9 ⟨#[]⟩ with elem:=x.c % n }
def typL (t:Typ) (c:AV):List AV:=[.int .i64 t.kind,.str t.name,.int .i64 t.low,.int .i64 t.high,.int .i64 t.max,.sl t.sn (t.syms.map symC),c,.int .i64 t.key,.int .i64 t.elem,.bool t.opn]
theorem typL_C (t:Typ):typL t (.sl t.mn (t.mems.map memC))=typC t:=rfl
def q6Q (ms:List Mem) (c:AV) (s:MSt):Prop :=
 (ms=[]/\c=.sl true [])\/∃ N,ms≠[]/\N<s.next/\c=.ref 88 N 13 0 ms.length ms.length/\s.mem 88 N=some (q0g (ms.map memC))
theorem ListI.mems {n0:Nat} {ms:List Mem} {x:Slot} {s:MSt} (h:ListI n0 ms x s):q6Q ms x.v s:=by
 rcases h with ⟨h1,h2,_⟩ | ⟨N,h1,_,h3,h4,h5⟩
 ·exact .inl ⟨h1,h2⟩
 ·exact .inr ⟨N,h1,h3,h4,h5⟩
theorem mems_free (ms:List Mem):q2t (ms.map memC)=true:=q73 memC ms fun m=>by simp [memC,AV.free0]
theorem q6Q.keep {ms:List Mem} {c:AV} {s s':MSt} (h:q6Q ms c s) (hm:∀ N,N<s.next->s'.mem 88 N=s.mem 88 N) (hn:s.next<=s'.next):q6Q ms c s':=by
 rcases h with h | ⟨N,h1,h2,h3,h4⟩
 ·exact .inl h
 ·exact .inr ⟨N,h1,yX h2 hn,h3,(hm N h2).trans h4⟩
theorem q6Q.low {ms:List Mem} {c:AV} {s:MSt} (h:q6Q ms c s):low0 s.next c:=by
 rcases h with ⟨_,rfl⟩ | ⟨N,_,h2,rfl,_⟩
 ·exact q98 rfl
 ·exact low0_ref h2
def q6T (S:List Typ) (L:List (List AV)) (s:MSt):Prop:=S.length=L.length/\∀ (i:Nat) (t:Typ) (c:List AV),S[i]?=some t->L[i]?=some c->∃ m,c=typL t m/\q6Q t.mems m s
theorem q6T.snoc {S:List Typ} {L:List (List AV)} {s:MSt} (h:q6T S L s) {t:Typ} {m:AV} (hm:q6Q t.mems m s):q6T (S++[t]) (L++[typL t m]) s:=by
 obtain ⟨h1,h2⟩:=h;refine ⟨by simp [h1],fun i t' c' ht hc=>?_⟩;rcases Nat.lt_or_ge i S.length with hlt | hge
 ·rw [yM hlt] at ht;rw [yM (by omega)] at hc;exact h2 i t' c' ht hc
 ·rw [yQ hge] at ht;rw [yQ (by omega)] at hc;have hi:i - S.length=0:=by
   rcases yE (i - S.length) with h0 | h0
   ·exact h0
   ·rw [List.getElem?_eq_none (by simp; omega)] at ht; cases ht
  rw [hi] at ht;rw [<- h1,hi] at hc;injection ht with ht;injection hc with hc;exact ⟨m,by rw [<- ht,<- hc],by rw [<- ht]; exact hm⟩
theorem q6T.keep {S:List Typ} {L:List (List AV)} {s s':MSt} (h:q6T S L s) (hm:∀ N,N<s.next->s'.mem 88 N=s.mem 88 N) (hn:s.next<=s'.next):q6T S L s' :=
 ⟨h.1,fun i t c ht hc=>by obtain ⟨m,h1,h2⟩:=h.2 i t c ht hc; exact ⟨m,h1,h2.keep hm hn⟩⟩
theorem q6T.els {S:List Typ} {L:List (List AV)} {s:MSt} (h:q6T S L s):q1f 10 L=true:=by
 refine y6.2 fun c hc=>?_
 obtain ⟨i,hi,rfl⟩:=yC hc;have hlen:=h.1;have hiS:i<S.length:=by omega
 obtain ⟨m,h1,_⟩:=h.2 i S[i] L[i] (y7 (by omega)) (y7 hi);rw [h1];rfl
def intC (n:Int):List AV:=[.int .i64 n]
def Typ.usesL (t:Typ):List Int:=(t.mems.map Mem.ty++(if t.kind=8 then [t.key] else []))++(if 7<=t.kind then [t.elem] else [])
theorem uses_lp (t:Typ) (hl:t.mems.length<=8796093022206) (r:RV) (k:Ex->MSt->Option RV)
  (hk:∀ s':MSt,(s'.env 1).v=.ptr 1 1 0->s'.mem 1 1=some (q0a t)->(s'.env 3).v=.sl t.mems.isEmpty ((t.mems.map Mem.ty).map intC)->(t.mems.isEmpty=t.mems.isEmpty/\(s'.env 3).a=.ex\/t.mems.isEmpty=false/\(s'.env 3).a=.own 17 3)->k (.exit 0) s'=some r)
  (s:MSt) (h1:(s.env 1).v=.ptr 1 1 0) (h2:s.mem 1 1=some (q0a t)) (h3:(s.env 7).v=.sl t.mn (t.mems.map memC)) (h4:(s.env 8).v=.int .i64 t.mems.length) (h5:(s.env 9).v=.int .i64 0) (h6:(s.env 3).v=.sl true []) (h7:(s.env 3).a=.ex):evL allT q01 q2T s k=some r:=by
 refine q0f t.mems.length (fun i s=>(s.env 1).v=.ptr 1 1 0/\s.mem 1 1=some (q0a t)/\(s.env 7).v=.sl t.mn (t.mems.map memC)/\(s.env 8).v=.int .i64 t.mems.length/\(s.env 9).v=.int .i64 i/\(s.env 3).v=.sl (t.mems.take i).isEmpty (((t.mems.take i).map Mem.ty).map intC)/\((t.mems.take i).isEmpty=(t.mems.take i).isEmpty/\(s.env 3).a=.ex\/(t.mems.take i).isEmpty=false/\(s.env 3).a=.own 17 3))
  (fun e s=>e=.exit 0/\(s.env 1).v=.ptr 1 1 0/\s.mem 1 1=some (q0a t)/\(s.env 3).v=.sl t.mems.isEmpty ((t.mems.map Mem.ty).map intC)/\(t.mems.isEmpty=t.mems.isEmpty/\(s.env 3).a=.ex\/t.mems.isEmpty=false/\(s.env 3).a=.own 17 3)) (fun i hi s k h ih hk=>?_) _ _ ?_ (fun e s h=>?_)
 ·obtain ⟨e1,m1,e7,e8,e9,e3,an⟩:=h;refine q04 ?_;by_cases hlt:i<t.mems.length
  ·have hlt':(i:Int)<t.mems.length:=by omega
   have g1:(t.mems.map memC)[i]?=some (memC t.mems[i]):=by simp [hlt]
   have hw:=q11 (i:=i) (by omega);have ht:t.mems.take (i + 1)=t.mems.take i++[t.mems[i]]:=(yR hlt).symm;generalize t.mems[i]=x at *
   simp only [memC] at g1;have hlen:(t.mems.take i).length=i:=by simp; omega
   generalize t.mems.take i=q at *
   have hr1:q10 8 (q.length + 1)=true:=by rw [q0l]; omega
   have q1:q1f 1 ((q.map Mem.ty).map intC)=true:=q1B _ _ _ fun _=>rfl
   rcases an with ⟨a0,a3⟩ | ⟨a0,a3⟩
   ·simp [q2T,-y0,-y5,-y4,y3,e1,m1,e7,e8,e9,e3,a0,a3,hlt',g1,hw,hr1,q1];refine ih hlt _ ⟨?_,?_,?_,?_,?_,?_,?_⟩ <;> simp [ht,e1,m1,e7,e8,intC,An.strip]
   ·simp [q2T,-y0,-y5,-y4,y3,e1,m1,e7,e8,e9,e3,a0,a3,hlt',g1,hw,hr1,q1];refine ih hlt _ ⟨?_,?_,?_,?_,?_,?_,?_⟩ <;> simp [ht,e1,m1,e7,e8,intC,An.strip]
  ·have hlt':¬ (i:Int)<t.mems.length:=by omega
   simp [q2T,-y0,-y5,-y4,y3,e8,e9,hlt'];rw [yO (by omega)] at e3 an;exact hk _ _ ⟨rfl,by simp [e1],by simp [m1],by simp [e3],by simpa using an⟩
 ·simp [h1,h2,h3,h4,h5,h6,h7]
 ·obtain ⟨rfl,e1,m1,e3,an⟩:=h;exact hk s e1 m1 e3 an
theorem uses_ev (t:Typ) (hl:t.mems.length<=8796093022206) (b:Bool) (hb:b=t.usesL.isEmpty):evA 222 [.agg (typC t)] (.sl b (t.usesL.map intC)):=by
 subst hb;refine q00 (c:=q5s) rfl rfl ?_;simp [q5s,-y0,-y5,-y4,y3,typC];refine uses_lp t hl _ _ (fun s e1 m1 e3 an=>?_) _ ?_ ?_ ?_ ?_ ?_ ?_ ?_
 ·have q1:q1f 1 ((t.mems.map Mem.ty).map intC)=true:=q1B _ _ _ fun _=>rfl
  have hr1:q10 8 (t.mems.length + 1)=true:=by rw [q0l]; omega
  have hr2:q10 8 (t.mems.length + 1 + 1)=true:=by rw [q0l]; omega
  unfold Typ.usesL;by_cases h8:t.kind=8
  ·rcases an with ⟨a0,a3⟩ | ⟨a0,a3⟩
   ·simp [-y0,-y5,-y4,y3,e1,m1,e3,a0,a3,h8,q1,hr1,hr2,intC]
   ·simp [-y0,-y5,-y4,y3,e1,m1,e3,a0,a3,h8,q1,hr1,hr2,intC]
  ·by_cases h7:7<=t.kind
   ·rcases an with ⟨a0,a3⟩ | ⟨a0,a3⟩
    ·simp [-y0,-y5,-y4,y3,e1,m1,e3,a0,a3,h8,h7,q1,hr1,hr2,intC]
    ·simp [-y0,-y5,-y4,y3,e1,m1,e3,a0,a3,h8,h7,q1,hr1,hr2,intC]
   ·simp [-y0,-y5,-y4,y3,e1,m1,e3,h8,h7]
 all_goals simp
theorem ruses_lp (t:Typ) (hl:t.mems.length<=8796093022206) (r:RV) (k:Ex->MSt->Option RV)
  (hk:∀ s':MSt,(s'.env 1).v=.ptr 1 1 0->s'.mem 1 1=some (q0a t)->(s'.env 3).v=.sl t.mems.isEmpty ((t.mems.map Mem.ty).map intC)->(t.mems.isEmpty=t.mems.isEmpty/\(s'.env 3).a=.ex\/t.mems.isEmpty=false/\(s'.env 3).a=.own 20 3)->k (.exit 0) s'=some r)
  (s:MSt) (h1:(s.env 1).v=.ptr 1 1 0) (h2:s.mem 1 1=some (q0a t)) (h5:(s.env 4).v=.int .i64 0) (h6:(s.env 3).v=.sl true []) (h7:(s.env 3).a=.ex):evL allT q01 q3c s k=some r:=by
 refine q0f t.mems.length (fun i s=>(s.env 1).v=.ptr 1 1 0/\s.mem 1 1=some (q0a t)/\(s.env 4).v=.int .i64 i/\(s.env 3).v=.sl (t.mems.take i).isEmpty (((t.mems.take i).map Mem.ty).map intC)/\((t.mems.take i).isEmpty=(t.mems.take i).isEmpty/\(s.env 3).a=.ex\/(t.mems.take i).isEmpty=false/\(s.env 3).a=.own 20 3))
  (fun e s=>e=.exit 0/\(s.env 1).v=.ptr 1 1 0/\s.mem 1 1=some (q0a t)/\(s.env 3).v=.sl t.mems.isEmpty ((t.mems.map Mem.ty).map intC)/\(t.mems.isEmpty=t.mems.isEmpty/\(s.env 3).a=.ex\/t.mems.isEmpty=false/\(s.env 3).a=.own 20 3)) (fun i hi s k h ih hk=>?_) _ _ ?_ (fun e s h=>?_)
 ·obtain ⟨e1,m1,e9,e3,an⟩:=h;refine q04 ?_;by_cases hlt:i<t.mems.length
  ·have hlt':(i:Int)<t.mems.length:=by omega
   have g1:(t.mems.map memC)[i]?=some (memC t.mems[i]):=by simp [hlt]
   have hw:=q11 (i:=i) (by omega);have ht:t.mems.take (i + 1)=t.mems.take i++[t.mems[i]]:=(yR hlt).symm;generalize t.mems[i]=x at *
   simp only [memC] at g1;have hlen:(t.mems.take i).length=i:=by simp; omega
   generalize t.mems.take i=q at *
   have hr1:q10 8 (q.length + 1)=true:=by rw [q0l]; omega
   have q1:q1f 1 ((q.map Mem.ty).map intC)=true:=q1B _ _ _ fun _=>rfl
   rcases an with ⟨a0,a3⟩ | ⟨a0,a3⟩
   ·simp [q3c,-y0,-y5,-y4,y3,e1,m1,e9,e3,a0,a3,hlt',g1,hw,hr1,q1];refine ih hlt _ ⟨?_,?_,?_,?_,?_⟩ <;> simp [ht,e1,m1,intC,An.strip]
   ·simp [q3c,-y0,-y5,-y4,y3,e1,m1,e9,e3,a0,a3,hlt',g1,hw,hr1,q1];refine ih hlt _ ⟨?_,?_,?_,?_,?_⟩ <;> simp [ht,e1,m1,intC,An.strip]
  ·have hlt':¬ (i:Int)<t.mems.length:=by omega
   simp [q3c,-y0,-y5,-y4,y3,e1,m1,e9,hlt'];rw [yO (by omega)] at e3 an;exact hk _ _ ⟨rfl,by simp [e1],by simp [m1],by simp [e3],by simpa using an⟩
 ·simp [h1,h2,h5,h6,h7]
 ·obtain ⟨rfl,e1,m1,e3,an⟩:=h;exact hk s e1 m1 e3 an
theorem ruses_ev (t:Typ) (hl:t.mems.length<=8796093022206) (h9:t.kind<=9) (b:Bool) (hb:b=t.usesL.isEmpty):evA 181 [.agg (typC t)] (.sl b (t.usesL.map intC)):=by
 subst hb;refine q00 (c:=q67) rfl rfl ?_;simp [q67,-y0,-y5,-y4,y3,typC];refine ruses_lp t hl _ _ (fun s e1 m1 e3 an=>?_) _ ?_ ?_ ?_ ?_ ?_
 ·have q1:q1f 1 ((t.mems.map Mem.ty).map intC)=true:=q1B _ _ _ fun _=>rfl
  have hr1:q10 8 (t.mems.length + 1)=true:=by rw [q0l]; omega
  have hr2:q10 8 (t.mems.length + 1 + 1)=true:=by rw [q0l]; omega
  unfold Typ.usesL;have hc:t.kind=8\/t.kind=7\/t.kind=9\/(¬ t.kind=8/\¬ t.kind=7/\¬ t.kind=9/\¬ 7<=t.kind):=by omega
  rcases hc with h | h | h | ⟨h8,h7,h9,h⟩
  ·rcases an with ⟨a0,a3⟩ | ⟨a0,a3⟩ <;> simp [-y0,-y5,-y4,y3,e1,m1,e3,a0,a3,h,q1,hr1,hr2,intC]
  ·rcases an with ⟨a0,a3⟩ | ⟨a0,a3⟩ <;> simp [-y0,-y5,-y4,y3,e1,m1,e3,a0,a3,h,q1,hr1,hr2,intC]
  ·rcases an with ⟨a0,a3⟩ | ⟨a0,a3⟩ <;> simp [-y0,-y5,-y4,y3,e1,m1,e3,a0,a3,h,q1,hr1,hr2,intC]
  ·simp [-y0,-y5,-y4,y3,e1,m1,e3,h8,h7,h9,h]
 all_goals simp
theorem form_ev1 (t:Typ) (h:t.kind=1) {T:Bool} (hs:evA 237 [.agg (typC t.left),.agg (typC q1M)] (.bool T)):evA 221 [.agg (typC t)] (.bool (T)):=by
 refine q00 (c:=q07) rfl rfl ?_;simp [evA,typC,q1M,Typ.left,h] at hs;simp [q07,-y0,-y5,-y4,y3,typC,h,hs]
theorem form_ev2 (t:Typ) (h:t.kind=2) {T:Bool} (hs:evA 237 [.agg (typC t.left),.agg (typC q1M)] (.bool T)):evA 221 [.agg (typC t)] (.bool (decide (t.low<=t.high)&&T)):=by
 refine q00 (c:=q07) rfl rfl ?_;simp [evA,typC,q1M,Typ.left,h] at hs;by_cases h1:t.low<=t.high
 ·simp [q07,-y0,-y5,-y4,y3,typC,h,hs,h1]
 ·simp [q07,-y0,-y5,-y4,y3,typC,h,hs,h1]
theorem form_ev3 (t:Typ) (h:t.kind=3) {T:Bool} (hs:evA 237 [.agg (typC t.left),.agg (typC q1M)] (.bool T)):evA 221 [.agg (typC t)] (.bool ((decide (0<=t.max)&&decide (t.max<=200))&&T)):=by
 refine q00 (c:=q07) rfl rfl ?_;simp [evA,typC,q1M,Typ.left,h] at hs;by_cases h1:0<=t.max
 ·by_cases h2:t.max<=200
  ·simp [q07,-y0,-y5,-y4,y3,typC,h,hs,h1,h2]
  ·simp [q07,-y0,-y5,-y4,y3,typC,h,hs,h1,h2]
 ·simp [q07,-y0,-y5,-y4,y3,typC,h,hs,h1]
theorem form_ev7 (t:Typ) (h:t.kind=7) {T:Bool} (hs:evA 237 [.agg (typC t.left),.agg (typC q1M)] (.bool T)):evA 221 [.agg (typC t)] (.bool ((decide (0<=t.max)&&decide (t.max<=50))&&T)):=by
 refine q00 (c:=q07) rfl rfl ?_;simp [evA,typC,q1M,Typ.left,h] at hs;by_cases h1:0<=t.max
 ·by_cases h2:t.max<=50
  ·simp [q07,-y0,-y5,-y4,y3,typC,h,hs,h1,h2]
  ·simp [q07,-y0,-y5,-y4,y3,typC,h,hs,h1,h2]
 ·simp [q07,-y0,-y5,-y4,y3,typC,h,hs,h1]
theorem form_ev8 (t:Typ) (h:t.kind=8) {T:Bool} (hs:evA 237 [.agg (typC t.left),.agg (typC q1M)] (.bool T)):evA 221 [.agg (typC t)] (.bool ((decide (0<=t.max)&&decide (t.max<=50))&&T)):=by
 refine q00 (c:=q07) rfl rfl ?_;simp [evA,typC,q1M,Typ.left,h] at hs;by_cases h1:0<=t.max
 ·by_cases h2:t.max<=50
  ·simp [q07,-y0,-y5,-y4,y3,typC,h,hs,h1,h2]
  ·simp [q07,-y0,-y5,-y4,y3,typC,h,hs,h1,h2]
 ·simp [q07,-y0,-y5,-y4,y3,typC,h,hs,h1]
theorem form_ev9 (t:Typ) (h:t.kind=9) {T:Bool} (hs:evA 237 [.agg (typC t.left),.agg (typC q1M)] (.bool T)):evA 221 [.agg (typC t)] (.bool (T)):=by
 refine q00 (c:=q07) rfl rfl ?_;simp [evA,typC,q1M,Typ.left,h] at hs;simp [q07,-y0,-y5,-y4,y3,typC,h,hs]
theorem form_ev4 (t:Typ) (h:t.kind=4) {T:Bool} (hs:evA 237 [.agg (typC t.left),.agg (typC q1M)] (.bool T)) {a b:Bool} (hn:evA 234 [.str t.name] (.bool a)) (hy:evA 235 [.sl t.sn (t.syms.map symC)] (.bool b)):evA 221 [.agg (typC t)] (.bool ((a&&b)&&T)):=by
 refine q00 (c:=q07) rfl rfl ?_;simp [evA,typC,q1M,Typ.left,h] at hs;simp only [evA] at hn hy;cases a with
 | false=>simp [q07,-y0,-y5,-y4,y3,typC,h,hs,hn]
 | true=>cases b with
  | false=>simp [q07,-y0,-y5,-y4,y3,typC,h,hs,hn,hy]
  | true=>simp [q07,-y0,-y5,-y4,y3,typC,h,hs,hn,hy]
theorem form_ev5 (t:Typ) (h:t.kind=5) {T:Bool} (hs:evA 237 [.agg (typC t.left),.agg (typC q1M)] (.bool T)) {a b:Bool} (hn:evA 234 [.str t.name] (.bool a)) (hy:evA 236 [.agg (typC t)] (.bool b)):evA 221 [.agg (typC t)] (.bool ((a&&b)&&T)):=by
 refine q00 (c:=q07) rfl rfl ?_;simp [evA,typC,q1M,Typ.left,h] at hs;simp only [evA,typC,h] at hn hy;cases ho:t.opn <;> simp only [ho] at hs hy <;> cases a with
 | false=>simp [q07,-y0,-y5,-y4,y3,typC,h,hs,hn,ho]
 | true=>cases b with
  | false=>simp [q07,-y0,-y5,-y4,y3,typC,h,hs,hn,hy,ho]
  | true=>simp [q07,-y0,-y5,-y4,y3,typC,h,hs,hn,hy,ho]
theorem form_ev6 (t:Typ) (h:t.kind=6) {T:Bool} (hs:evA 237 [.agg (typC t.left),.agg (typC q1M)] (.bool T)) {a b:Bool} (hn:evA 234 [.str t.name] (.bool a)) (hy:evA 236 [.agg (typC t)] (.bool b)):evA 221 [.agg (typC t)] (.bool ((a&&b)&&T)):=by
 refine q00 (c:=q07) rfl rfl ?_;simp [evA,typC,q1M,Typ.left,h] at hs;simp only [evA,typC,h] at hn hy;cases ho:t.opn <;> simp only [ho] at hs hy <;> cases a with
 | false=>simp [q07,-y0,-y5,-y4,y3,typC,h,hs,hn,ho]
 | true=>cases b with
  | false=>simp [q07,-y0,-y5,-y4,y3,typC,h,hs,hn,hy,ho]
  | true=>simp [q07,-y0,-y5,-y4,y3,typC,h,hs,hn,hy,ho]
theorem form_ev0 (t:Typ) (h:¬ (1<=t.kind/\t.kind<=9)):evA 221 [.agg (typC t)] (.bool false):=by
 refine q00 (c:=q07) rfl rfl ?_;have q:∀ n:Int,1<=n->n<=9->¬ t.kind=n:=fun n h1 h2 e=>h ⟨by omega,by omega⟩
 simp [q07,-y0,-y5,-y4,y3,typC,q 1,q 2,q 3,q 4,q 5,q 6,q 7,q 8,q 9]
theorem form_ev (t:Typ) (ht:t.fine):evA 221 [.agg (typC t)] (.bool (q0Q t)):=by
 obtain ⟨hok,hsl,hml⟩:=ht;have hs:=tsame_ev t.left q1M (left_ok hok);have hn:=name_ev t.name;have hsy:=symbols_ev t.syms hsl t.sn;have hme:=members_ev t hok hml;unfold q0Q q6O;rcases kinds t.kind with h | h | h | h | h | h | h | h | h | h
 ·have r:=form_ev1 t h hs; simpa [h] using r
 ·have r:=form_ev2 t h hs; simpa [h] using r
 ·have r:=form_ev3 t h hs; simpa [h] using r
 ·have r:=form_ev4 t h hs hn hsy; simpa [h] using r
 ·have r:=form_ev5 t h hs hn (hme (.inl h)); simpa [h] using r
 ·have r:=form_ev6 t h hs hn (hme (.inr h)); simpa [h] using r
 ·have r:=form_ev7 t h hs; simpa [h] using r
 ·have r:=form_ev8 t h hs; simpa [h] using r
 ·have r:=form_ev9 t h hs; simpa [h] using r
 ·have r:=form_ev0 t h; rw [decide_eq_false h]; exact r
def q0L (n:Nat) (u:Int):Bool:=decide (u<0)||decide ((n:Int)<=u)
def q5N (l:List Typ) (k:Int):Int:=match l[k.toNat]? with
 | some t=>t.kind
 | none=>0
def q1X (l:List Typ) (i:Nat) (t:Typ):Int :=
 if q0Q t=false then 1
 else if t.named=true/\t.name∈(l.take i).map Typ.name then 1
 else if t.usesL.any (q0L l.length)=true then 4
 else if t.kind=8/\¬ (1<=q5N l t.key/\q5N l t.key<=4) then 1
 else 0
def q1L (l:List Typ):Nat->Nat->Int
 | 0,_=>0
 | n + 1,i=>match l[i]? with
  | some t=>if q1X l i t=0 then q1L l n (i + 1) else q1X l i t
  | none=>0
def valid (l:List Typ):Int:=if 32<l.length then 3 else q1L l l.length 0
theorem qar {l:List Typ} {i:Nat} (h:i<l.length):q1L l (l.length - i) i=if q1X l i l[i]=0 then q1L l (l.length - (i + 1)) (i + 1) else q1X l i l[i]:=by
 rw [show l.length - i=(l.length - (i + 1)) + 1 from by omega,q1L,y7 h]
theorem q5M {t:Typ} (h:q0Q t=true):1<=t.kind/\t.kind<=9:=by
 unfold q0Q at h;rw [yb] at h;exact of_decide_eq_true h.1
theorem isName_ne {s:ByteArray} (h:q3E s=true):s≠⟨#[]⟩:=fun e=>by
 subst e;unfold q3E at h;simp only [yb] at h;have:=of_decide_eq_true h.1.1.1;exact this rfl
theorem good_named {t:Typ} (h:q0Q t=true):t.named=true ↔ t.name≠⟨#[]⟩:=by
 have hk:=q5M h;unfold q0Q q6O Typ.left at h;rcases kinds t.kind with e | e | e | e | e | e | e | e | e | e
 all_goals first | exact absurd hk e | skip
 all_goals simp [e,Typ.same,q1M,Typ.named] at h ⊢
 all_goals first | exact isName_ne h.1.1 | (simp [h]; done) | skip
theorem key_in {l:List Typ} {t:Typ} (h8:t.kind=8) (h:t.usesL.any (q0L l.length)=false):0<=t.key/\t.key<l.length:=by
 have hm:t.key∈t.usesL:=by simp [Typ.usesL,h8]
 have:=List.any_eq_false.1 h _ hm;simp [q0L] at this;omega
theorem seen_set2 (s:ByteArray):∀ l:List ByteArray,s∈l->q5Q (l.map q6N) (.str s) (.bool true)=l.map q6N
 | [],h=>by cases h
 | x :: r,hn=>by
  by_cases h:x=s
  ·simp [q6N,q5Q,keyEq,h]
  ·have:=seen_set2 s r (by
    rcases yj.1 hn with e | e
    ·exact absurd e.symm h
    ·exact e)
   simp [q6N,q5Q,keyEq,h,this]
theorem seen_next (s:ByteArray) (q:List ByteArray):∃ q':List ByteArray,q5Q (q.map q6N) (.str s) (.bool true)=q'.map q6N/\∀ x,x∈q' ↔ x∈q\/x=s:=by
 by_cases h:s∈q
 ·exact ⟨q,seen_set2 s q h,fun x=>⟨.inl,fun e=>e.elim id (fun e=>e ▸ h)⟩⟩
 ·exact ⟨q++[s],seen_set s q h,fun x=>by simp⟩
def Sch.fine (s:Sch):Prop:=s.types.length<=9223372036854775807/\∀ t∈s.types,t.fine
theorem vuses_lp (sn:Bool) (S:List Typ) (U:List Int) (hU:U.length<=9223372036854775807) (bu:Bool) (r:RV) (P:MSt->Prop) (hP:∀ s s':MSt,s'.mem=s.mem->s'.obj=s.obj->s'.next=s'.next->(∀ t,t ∉ [2,7,41,42,43,44,45,46,47,48,49,50,51,52,53,40]->s'.env t=s.env t)->P s->P s') (k:Ex->MSt->Option RV)
  (hk:∀ s',U.any (q0L S.length)=false->P s'->k (.exit 2) s'=some r) (hr:∀ s':MSt,U.any (q0L S.length)=true->(s'.env 2).v=.int .i64 4->k .ret s'=some r)
  (s:MSt) (hs:P s) (h1:(s.env 1).v=.ptr 1 1 0) (m1:s.mem 1 1=some [⟨.sl sn (S.map typC),.no⟩]) (h38:(s.env 38).v=.sl bu (U.map intC)) (h39:(s.env 39).v=.int .i64 U.length) (h40:(s.env 40).v=.int .i64 0):evL allT q01 q1D s k=some r:=by
 refine q0f U.length (fun i s=>P s/\(s.env 1).v=.ptr 1 1 0/\s.mem 1 1=some [⟨.sl sn (S.map typC),.no⟩]/\(s.env 38).v=.sl bu (U.map intC)/\(s.env 39).v=.int .i64 U.length/\(s.env 40).v=.int .i64 i/\(U.drop i).any (q0L S.length)=U.any (q0L S.length))
  (fun e s=>(e=.exit 2/\U.any (q0L S.length)=false/\P s)\/(e=.ret/\U.any (q0L S.length)=true/\(s.env 2).v=.int .i64 4)) (fun i hi s k h ih hk=>?_) _ _ ?_ (fun e s h=>?_)
 ·obtain ⟨hp,e1,m1,e38,e39,e40,hs⟩:=h;refine q04 ?_;by_cases hlt:i<U.length
  ·have hlt':(i:Int)<U.length:=by omega
   have g1:(U.map intC)[i]?=some (intC U[i]):=by simp [hlt]
   have hw:=q11 (i:=i) (by omega);rw [yc hlt,List.any_cons] at hs;generalize U[i]=u at *
   simp only [intC] at g1;by_cases c1:u<0
   ·simp [q1D,-y0,-y5,-y4,y3,e1,m1,e38,e39,e40,hlt',g1,c1];exact hk _ _ (.inr ⟨rfl,by rw [<- hs]; simp [q0L,c1],by simp⟩)
   by_cases c2:(S.length:Int)<=u
   ·simp [q1D,-y0,-y5,-y4,y3,e1,m1,e38,e39,e40,hlt',g1,c1,c2];exact hk _ _ (.inr ⟨rfl,by rw [<- hs]; simp [q0L,c2],by simp⟩)
   simp [q1D,-y0,-y5,-y4,y3,e1,m1,e38,e39,e40,hlt',g1,c1,c2,hw];refine ih hlt _ ⟨hP s _ ?_ ?_ ?_ ?_ hp,?_,?_,?_,?_,?_,?_⟩
   ·rfl
   ·rfl
   ·rfl
   ·intro t ht;simp only [yj,yJ,or_false,not_or] at ht;simp [q3X,ht]
   ·simp [e1]
   ·simp [m1]
   ·simp [e38]
   ·simp [e39]
   ·simp
   ·rw [<- hs]; simp [q0L,c1,c2]
  ·have hlt':¬ (i:Int)<U.length:=by omega
   simp [q1D,-y0,-y5,-y4,y3,e39,e40,hlt'];rw [yg (by omega)] at hs;refine hk _ _ (.inl ⟨rfl,hs.symm,hP s _ ?_ ?_ ?_ ?_ hp⟩)
   ·rfl
   ·rfl
   ·rfl
   ·intro t ht;simp only [yj,yJ,or_false,not_or] at ht;simp [q3X,ht]
 ·simp [hs,h1,m1,h38,h39,h40]
 ·rcases h with ⟨rfl,h1,h2⟩ | ⟨rfl,h1,h2⟩
  ·exact hk s h1 h2
  ·exact hr s h1 h2
theorem valid_ev (s:Sch) (hs:s.fine):evA 203 [.agg (schC s)] (.int .i64 (valid s.types)):=by
 obtain ⟨hlen,hfine⟩:=hs;refine q00 (c:=q3D) rfl rfl ?_;unfold valid;by_cases h32:32<s.types.length
 ·have h32':(32:Int)<s.types.length:=by omega
  simp [q3D,-y0,-y5,-y4,y3,schC,h32,h32']
 have h32':¬ (32:Int)<s.types.length:=by omega
 simp [q3D,-y0,-y5,-y4,y3,schC,h32,h32'];refine q0f s.types.length (fun i σ=>(σ.env 1).v=.ptr 1 1 0/\σ.mem 1 1=some [⟨.sl s.nl (s.types.map typC),.no⟩]/\(σ.env 3).v=.mp 12 3/\(σ.env 14).v=.sl s.nl (s.types.map typC)/\(σ.env 15).v=.int .i64 s.types.length/\(σ.env 16).v=.int .i64 i/\(∃ q:List ByteArray,σ.obj 12 3=some (q5P (q.map q6N))/\∀ x,x∈q ↔ x∈(s.types.take i).map Typ.name)/\q1L s.types (s.types.length - i) i=q1L s.types s.types.length 0)
  (fun e σ=>(e=.exit 0/\q1L s.types s.types.length 0=0)\/(e=.ret/\(σ.env 2).v=.int .i64 (q1L s.types s.types.length 0))) (fun i hi σ k h ih hk=>?_) _ _ ?_ (fun e σ h=>?_)
 ·obtain ⟨e1,m1,e3,e14,e15,e16,⟨q,o,hq⟩,hv⟩:=h;refine q04 ?_;by_cases hlt:i<s.types.length
  ·have hlt':(i:Int)<s.types.length:=by omega
   have g1:(s.types.map typC)[i]?=some (typC s.types[i]):=by simp [hlt]
   have hw:=q11 (i:=i) (by omega);have ht:s.types.take (i + 1)=s.types.take i++[s.types[i]]:=(yR hlt).symm;have hf:=form_ev s.types[i] (hfine _ (y8 _));have hu:=uses_ev s.types[i] (hfine _ (y8 _)).2.2 _ rfl;have hml:=(hfine _ (y8 hlt)).2.2;rw [qar hlt] at hv;generalize s.types[i]=t at *
   have hul:t.usesL.length<=9223372036854775807:=by
    unfold Typ.usesL;by_cases h8:t.kind=8 <;> by_cases h7:7<=t.kind <;> simp [h8,h7] <;> omega
   simp only [evA,typC] at hf hu;simp only [typC] at g1;have hg:=seen_get t.name q;have hko:=seen_ok q;obtain ⟨q',hq',hmem⟩:=seen_next t.name q;have err:∀ σ' n,q1X s.types i t=n->n≠0->(σ'.env 2).v=.int .i64 n->k .ret σ'=some (.int .i64 (q1L s.types s.types.length 0),none):=fun σ' n h1 h2 h3=>hk _ _ (.inr ⟨rfl,by rw [h3,<- hv,h1,if_neg h2]⟩)
   cases c1:q0Q t with
   | false =>
    rw [c1] at hf;simp [q0F,-y0,-y5,-y4,y3,e1,m1,e3,e14,e15,e16,hlt',g1,hf];exact err _ 1 (by simp [q1X,c1]) (by decide) (by simp)
   | true =>
    rw [c1] at hf;have hnm:=good_named c1;have dup:t.name≠⟨#[]⟩->t.name∈q->q0F.run (evC allT q01) (evK allT q01) σ (q8r (evL allT q01) q0F k)=some (.int .i64 (q1L s.types s.types.length 0),none):=by
     intro hn hin;have hd:=eq_false hn;rw [if_pos hin] at hg;simp [q0F,-y0,-y5,-y4,y3,e1,m1,e3,e14,e15,e16,hlt',g1,hf,hd,o,q5x,hko,q6E,AV.flat,AV.scal,hg];exact err _ 1 (by unfold q1X; rw [if_neg (by simp [c1]),if_pos ⟨hnm.2 hn,(hq _).1 hin⟩]) (by decide) (by simp)
    have go:(t.name=⟨#[]⟩\/t.name≠⟨#[]⟩/\¬ t.name∈q)->q0F.run (evC allT q01) (evK allT q01) σ (q8r (evL allT q01) q0F k)=some (.int .i64 (q1L s.types s.types.length 0),none):=by
     intro hn;have c2:¬ (t.named=true/\t.name∈(s.types.take i).map Typ.name):=fun ⟨h1,h2⟩=>by
      rcases hn with hn | hn
      ·exact (hnm.1 h1) hn
      ·exact hn.2 ((hq _).2 h2)
     have fin:∀ (σ':MSt) (k':Ex->MSt->Option RV) (p:Nat),(∀ σ2:MSt,(σ2.env 2).v=.int .i64 4->k' .ret σ2=k .ret σ2) →
       (∀ σ2:MSt,(σ2.env 1).v=.ptr 1 1 0->σ2.mem 1 1=some [⟨.sl s.nl (s.types.map typC),.no⟩]->(σ2.env 3).v=.mp 12 3->(σ2.env 14).v=.sl s.nl (s.types.map typC)->(σ2.env 15).v=.int .i64 s.types.length->(σ2.env 16).v=.int .i64 i->σ2.obj 12 3=some (q5P (q'.map q6N))->(σ2.env 5).v=.ptr 5 p 0->σ2.mem 5 p=some (q0a t)->t.usesL.any (q0L s.types.length)=false->k' (.exit 2) σ2=some (.int .i64 (q1L s.types s.types.length 0),none)) →
       (σ'.env 1).v=.ptr 1 1 0->σ'.mem 1 1=some [⟨.sl s.nl (s.types.map typC),.no⟩]->(σ'.env 3).v=.mp 12 3->(σ'.env 14).v=.sl s.nl (s.types.map typC)->(σ'.env 15).v=.int .i64 s.types.length->(σ'.env 16).v=.int .i64 i->σ'.obj 12 3=some (q5P (q'.map q6N))->(σ'.env 5).v=.ptr 5 p 0->σ'.mem 5 p=some (q0a t)->(σ'.env 38).v=.sl t.usesL.isEmpty (t.usesL.map intC)->(σ'.env 39).v=.int .i64 t.usesL.length->(σ'.env 40).v=.int .i64 0->evL allT q01 q1D σ' k'=some (.int .i64 (q1L s.types s.types.length 0),none):=by
      intro σ' k' p hret hex f1 fm f3 f14 f15 f16 fo f5 fp f38 f39 f40;refine vuses_lp s.nl s.types t.usesL hul t.usesL.isEmpty _ (fun σ2=>(σ2.env 1).v=.ptr 1 1 0/\σ2.mem 1 1=some [⟨.sl s.nl (s.types.map typC),.no⟩]/\(σ2.env 3).v=.mp 12 3/\(σ2.env 14).v=.sl s.nl (s.types.map typC)/\(σ2.env 15).v=.int .i64 s.types.length/\(σ2.env 16).v=.int .i64 i/\σ2.obj 12 3=some (q5P (q'.map q6N))/\(σ2.env 5).v=.ptr 5 p 0/\σ2.mem 5 p=some (q0a t)) (fun a b hm ho _ he h=>?_) k' (fun σ2 hu h=>?_) (fun σ2 hu h2=>?_) σ' ⟨f1,fm,f3,f14,f15,f16,fo,f5,fp⟩ f1 fm f38 f39 f40
      ·rw [hm,ho,he 1 (by decide),he 3 (by decide),he 14 (by decide),he 15 (by decide),he 16 (by decide),he 5 (by decide)];exact h
      ·obtain ⟨f1,fm,f3,f14,f15,f16,fo,f5,fp⟩:=h;exact hex σ2 f1 fm f3 f14 f15 f16 fo f5 fp hu
      ·rw [hret σ2 h2];exact err _ 4 (by unfold q1X; rw [if_neg (by simp [c1]),if_neg c2,if_pos hu]) (by decide) h2
     have key:t.usesL.any (q0L s.types.length)=false->t.kind=8->0<=t.key/\∃ y:Typ,(s.types.map typC)[t.key.toNat]?=some (typC y)/\q5N s.types t.key=y.kind:=fun hu h8=>by
      obtain ⟨h1,h2⟩:=key_in h8 hu;have h3:t.key.toNat<s.types.length:=by omega
      exact ⟨h1,s.types[t.key.toNat],by rw [yf,y7 h3]; rfl,by unfold q5N; rw [y7 h3]⟩
     have next:q1X s.types i t=0->∀ σ2:MSt,(σ2.env 1).v=.ptr 1 1 0->σ2.mem 1 1=some [⟨.sl s.nl (s.types.map typC),.no⟩]->(σ2.env 3).v=.mp 12 3->(σ2.env 14).v=.sl s.nl (s.types.map typC)->(σ2.env 15).v=.int .i64 s.types.length->(σ2.env 16).v=.int .i64 ((i + 1:Nat):Int)->σ2.obj 12 3=some (q5P (q'.map q6N))->evL allT q01 q0F σ2 k=some (.int .i64 (q1L s.types s.types.length 0),none):=fun h0 σ2 f1 fm f3 f14 f15 f16 fo=>ih hlt _ ⟨f1,fm,f3,f14,f15,f16,⟨q',fo,fun x=>by rw [hmem,ht,List.map_append,yA,hq]; simp⟩,by rw [<- hv,h0]; rfl⟩
     have hgn:t.name=⟨#[]⟩\/t.name≠⟨#[]⟩/\q6F (q.map q6N) (.str t.name)=none:=by
      rcases hn with hn | ⟨h1,h2⟩
      ·exact .inl hn
      ·exact .inr ⟨h1,by rw [hg,if_neg h2]⟩
     rcases hgn with hd | ⟨hd,hg⟩
     ·have hd:=eq_true hd;simp [q0F,-y0,-y5,-y4,y3,e1,m1,e3,e14,e15,e16,hlt',g1,hf,hu,hd,o,q5x,hko,q6E,AV.flat,AV.scal,hq'];refine fin _ _ (σ.next + 1) (fun σ2 _=>rfl) (fun σ2 f1 fm f3 f14 f15 f16 fo f5 fp hus=>?_) ?_ ?_ ?_ ?_ ?_ ?_ ?_ ?_ ?_ ?_ ?_ ?_
      rotate_left
      ·simp [e1]
      ·simp [m1]
      ·simp [e3]
      ·simp [e14]
      ·simp [e15]
      ·simp [e16]
      ·simp
      ·simp
      ·simp
      ·simp
      ·simp
      ·simp
      have c3:=hus;by_cases h8:t.kind=8
      ·obtain ⟨hk0,y,gy,hy⟩:=key hus h8;simp only [typC] at gy;by_cases c4:y.kind<1
       ·simp [-y0,-y5,-y4,y3,f1,fm,f5,fp,h8,hk0,gy,c4];exact err _ 1 (by unfold q1X; rw [if_neg (by simp [c1]),if_neg c2,if_neg (by simp [c3]),if_pos ⟨h8,by rw [hy]; omega⟩]) (by decide) (by simp)
       ·by_cases c5:4<y.kind
        ·simp [-y0,-y5,-y4,y3,f1,fm,f5,fp,h8,hk0,gy,c4,c5];exact err _ 1 (by unfold q1X; rw [if_neg (by simp [c1]),if_neg c2,if_neg (by simp [c3]),if_pos ⟨h8,by rw [hy]; omega⟩]) (by decide) (by simp)
        ·simp [-y0,-y5,-y4,y3,f1,fm,f5,fp,f16,h8,hk0,gy,c4,c5,hw];refine next (by unfold q1X; rw [if_neg (by simp [c1]),if_neg c2,if_neg (by simp [c3]),if_neg fun h=>h.2 (by rw [hy]; omega)]) _ ?_ ?_ ?_ ?_ ?_ ?_ ?_ <;> simp [f1,fm,f3,f14,f15,fo]
      ·simp [-y0,-y5,-y4,y3,f1,fm,f5,fp,f16,h8,hw];refine next (by unfold q1X; rw [if_neg (by simp [c1]),if_neg c2,if_neg (by simp [c3]),if_neg fun h=>h8 h.1]) _ ?_ ?_ ?_ ?_ ?_ ?_ ?_ <;> simp [f1,fm,f3,f14,f15,fo]
     ·have hd:=eq_false hd;simp [q0F,-y0,-y5,-y4,y3,e1,m1,e3,e14,e15,e16,hlt',g1,hf,hu,hd,hg,o,q5x,hko,q6E,AV.flat,AV.scal,hq'];refine fin _ _ (σ.next + 1) (fun σ2 _=>rfl) (fun σ2 f1 fm f3 f14 f15 f16 fo f5 fp hus=>?_) ?_ ?_ ?_ ?_ ?_ ?_ ?_ ?_ ?_ ?_ ?_ ?_
      rotate_left
      ·simp [e1]
      ·simp [m1]
      ·simp [e3]
      ·simp [e14]
      ·simp [e15]
      ·simp [e16]
      ·simp
      ·simp
      ·simp
      ·simp
      ·simp
      ·simp
      have c3:=hus;by_cases h8:t.kind=8
      ·obtain ⟨hk0,y,gy,hy⟩:=key hus h8;simp only [typC] at gy;by_cases c4:y.kind<1
       ·simp [-y0,-y5,-y4,y3,f1,fm,f5,fp,h8,hk0,gy,c4];exact err _ 1 (by unfold q1X; rw [if_neg (by simp [c1]),if_neg c2,if_neg (by simp [c3]),if_pos ⟨h8,by rw [hy]; omega⟩]) (by decide) (by simp)
       ·by_cases c5:4<y.kind
        ·simp [-y0,-y5,-y4,y3,f1,fm,f5,fp,h8,hk0,gy,c4,c5];exact err _ 1 (by unfold q1X; rw [if_neg (by simp [c1]),if_neg c2,if_neg (by simp [c3]),if_pos ⟨h8,by rw [hy]; omega⟩]) (by decide) (by simp)
        ·simp [-y0,-y5,-y4,y3,f1,fm,f5,fp,f16,h8,hk0,gy,c4,c5,hw];refine next (by unfold q1X; rw [if_neg (by simp [c1]),if_neg c2,if_neg (by simp [c3]),if_neg fun h=>h.2 (by rw [hy]; omega)]) _ ?_ ?_ ?_ ?_ ?_ ?_ ?_ <;> simp [f1,fm,f3,f14,f15,fo]
      ·simp [-y0,-y5,-y4,y3,f1,fm,f5,fp,f16,h8,hw];refine next (by unfold q1X; rw [if_neg (by simp [c1]),if_neg c2,if_neg (by simp [c3]),if_neg fun h=>h8 h.1]) _ ?_ ?_ ?_ ?_ ?_ ?_ ?_ <;> simp [f1,fm,f3,f14,f15,fo]
    by_cases hin:t.name≠⟨#[]⟩/\t.name∈q
    ·exact dup hin.1 hin.2
    ·refine go ?_;by_cases he:t.name=⟨#[]⟩
     ·exact .inl he
     ·exact .inr ⟨he,fun h=>hin ⟨he,h⟩⟩
  ·have hlt':¬ (i:Int)<s.types.length:=by omega
   simp [q0F,-y0,-y5,-y4,y3,e15,e16,hlt'];refine hk _ _ (.inl ⟨rfl,?_⟩);rw [<- hv,show s.types.length - i=0 from by omega,q1L]
 ·refine ⟨?_,?_,?_,?_,?_,?_,⟨[],?_,?_⟩,?_⟩ <;> simp [q5P]
 ·rcases h with ⟨rfl,h1⟩ | ⟨rfl,h1⟩
  ·simp [-y0,-y5,-y4,y3,h1]
  ·simp [-y0,-y5,-y4,y3,h1]
def idxI {α:Type} (p:α->Bool):List α->Int
 | []=>-1
 | x :: r=>if p x=true then 0 else if idxI p r=-1 then -1 else idxI p r + 1
theorem q3h {α:Type} (p:α->Bool):∀ l:List α,-1<=idxI p l
 | []=>by simp [idxI]
 | x :: r=>by
  have:=q3h p r;simp only [idxI];split
  ·omega
  ·split <;> omega
theorem q6D {α:Type} (p:α->Bool) (x:α) (r:List α) (h:p x=false):idxI p (x :: r)=if idxI p r=-1 then -1 else idxI p r + 1:=by simp [idxI,h]
theorem q95 {α:Type} (p:α->Bool):∀ l:List α,idxI p l≠-1->∃ x,l[(idxI p l).toNat]?=some x/\p x=true
 | [],h=>absurd rfl h
 | x :: r,h=>by
  simp only [idxI] at h ⊢;by_cases hx:p x=true
  ·rw [if_pos hx]; exact ⟨x,rfl,hx⟩
  ·rw [if_neg hx] at h ⊢;by_cases h1:idxI p r=-1
   ·rw [if_pos h1] at h; exact absurd rfl h
   ·rw [if_neg h1];obtain ⟨y,h2,h3⟩:=q95 p r h1;have:=q3h p r;refine ⟨y,?_,h3⟩;rw [show (idxI p r + 1).toNat=(idxI p r).toNat + 1 from by omega,List.getElem?_cons_succ];exact h2
theorem idxI_any {α:Type} (p:α->Bool):∀ l:List α,(decide (0<=idxI p l))=l.any p
 | []=>by simp [idxI]
 | x :: r=>by
  have h1:=idxI_any p r;have h2:=q3h p r;rw [List.any_cons,<- h1];simp only [idxI];by_cases hx:p x=true
  ·simp [hx]
  ·by_cases h:idxI p r=-1
   ·simp [hx,h]
   ·simp [hx,h]; omega
theorem indexf_Mem_ev (F:Nat) (caps:List AV) (l:List Mem) (p:Mem->Bool) (hl:l.length<=9223372036854775807) (hcap:∀ (s:MSt) (cl:Cl),q2v s cl caps=some caps) (hF:∀ x∈l,evA F (.agg (memC x) :: caps) (.bool (p x))) (b:Bool):evA 159 [.sl b (l.map memC),.fn F caps] (.int .i64 (idxI p l)):=by
 refine q00 (c:=q1d) rfl rfl ?_;simp [q1d,-y0,-y5,-y4,y3];refine q0f l.length (fun i s=>(s.env 0).v=.sl b (l.map memC)/\(s.env 1).v=.fn F caps/\(s.env 7).v=.int .i64 l.length/\(s.env 8).v=.int .i64 i/\idxI p l=(if idxI p (l.drop i)=-1 then -1 else idxI p (l.drop i) + i))
  (fun e s=>(e=.exit 0/\idxI p l=-1)\/(e=.ret/\(s.env 4).v=.int .i64 (idxI p l))) (fun i hi s k h ih hk=>?_) _ _ ?_ (fun e s h=>?_)
 ·obtain ⟨e0,e1,e7,e8,hs⟩:=h;refine q04 ?_;by_cases hlt:i<l.length
  ·have hlt':(i:Int)<l.length:=by omega
   have g1:(l.map memC)[i]?=some (memC l[i]):=by simp [hlt]
   have hw:=q11 (i:=i) (by omega);have hx:=hF l[i] (y8 _);rw [yc hlt] at hs;generalize l[i]=x at *
   simp only [evA,memC] at g1 hx;cases hp:p x with
   | true =>
    rw [hp] at hx;simp [q0W,-y0,-y5,-y4,y3,e0,e1,e7,e8,hlt',g1,hcap,hx];refine hk _ _ (.inr ⟨rfl,?_⟩);simp [hs,idxI,hp]
   | false =>
    rw [hp] at hx;simp [q0W,-y0,-y5,-y4,y3,e0,e1,e7,e8,hlt',g1,hcap,hx,hw];refine ih hlt _ ⟨?_,?_,?_,?_,?_⟩
    ·simp [e0]
    ·simp [e1]
    ·simp [e7]
    ·simp
    ·rw [hs,q6D p x _ hp];have:=q3h p (l.drop (i + 1));by_cases h1:idxI p (l.drop (i + 1))=-1
     ·simp [h1]
     ·have h2:¬ idxI p (l.drop (i + 1)) + 1=-1:=by omega
      rw [if_neg h1,if_neg h2,if_neg h1];omega
  ·have hlt':¬ (i:Int)<l.length:=by omega
   simp [q0W,-y0,-y5,-y4,y3,e7,e8,hlt'];rw [yg (by omega)] at hs;exact hk _ _ (.inl ⟨rfl,hs⟩)
 ·have:=q3h p l;by_cases h1:idxI p l=-1 <;> simp [h1]
 ·rcases h with ⟨rfl,h1⟩ | ⟨rfl,h1⟩ <;> simp [-y0,-y5,-y4,y3,h1]
theorem indexf_Sym_ev (F:Nat) (caps:List AV) (l:List Sym) (p:Sym->Bool) (hl:l.length<=9223372036854775807) (hcap:∀ (s:MSt) (cl:Cl),q2v s cl caps=some caps) (hF:∀ x∈l,evA F (.agg (symC x) :: caps) (.bool (p x))) (b:Bool):evA 192 [.sl b (l.map symC),.fn F caps] (.int .i64 (idxI p l)):=by
 refine q00 (c:=q1e) rfl rfl ?_;simp [q1e,-y0,-y5,-y4,y3];refine q0f l.length (fun i s=>(s.env 0).v=.sl b (l.map symC)/\(s.env 1).v=.fn F caps/\(s.env 7).v=.int .i64 l.length/\(s.env 8).v=.int .i64 i/\idxI p l=(if idxI p (l.drop i)=-1 then -1 else idxI p (l.drop i) + i))
  (fun e s=>(e=.exit 0/\idxI p l=-1)\/(e=.ret/\(s.env 4).v=.int .i64 (idxI p l))) (fun i hi s k h ih hk=>?_) _ _ ?_ (fun e s h=>?_)
 ·obtain ⟨e0,e1,e7,e8,hs⟩:=h;refine q04 ?_;by_cases hlt:i<l.length
  ·have hlt':(i:Int)<l.length:=by omega
   have g1:(l.map symC)[i]?=some (symC l[i]):=by simp [hlt]
   have hw:=q11 (i:=i) (by omega);have hx:=hF l[i] (y8 _);rw [yc hlt] at hs;generalize l[i]=x at *
   simp only [evA,symC] at g1 hx;cases hp:p x with
   | true =>
    rw [hp] at hx;simp [q0X,-y0,-y5,-y4,y3,e0,e1,e7,e8,hlt',g1,hcap,hx];refine hk _ _ (.inr ⟨rfl,?_⟩);simp [hs,idxI,hp]
   | false =>
    rw [hp] at hx;simp [q0X,-y0,-y5,-y4,y3,e0,e1,e7,e8,hlt',g1,hcap,hx,hw];refine ih hlt _ ⟨?_,?_,?_,?_,?_⟩
    ·simp [e0]
    ·simp [e1]
    ·simp [e7]
    ·simp
    ·rw [hs,q6D p x _ hp];have:=q3h p (l.drop (i + 1));by_cases h1:idxI p (l.drop (i + 1))=-1
     ·simp [h1]
     ·have h2:¬ idxI p (l.drop (i + 1)) + 1=-1:=by omega
      rw [if_neg h1,if_neg h2,if_neg h1];omega
  ·have hlt':¬ (i:Int)<l.length:=by omega
   simp [q0X,-y0,-y5,-y4,y3,e7,e8,hlt'];rw [yg (by omega)] at hs;exact hk _ _ (.inl ⟨rfl,hs⟩)
 ·have:=q3h p l;by_cases h1:idxI p l=-1 <;> simp [h1]
 ·rcases h with ⟨rfl,h1⟩ | ⟨rfl,h1⟩ <;> simp [-y0,-y5,-y4,y3,h1]
theorem indexf_Vl_ev (F:Nat) (caps:List AV) (l:List Vl) (p:Vl->Bool) (hl:l.length<=9223372036854775807) (hcap:∀ (s:MSt) (cl:Cl),q2v s cl caps=some caps) (hF:∀ x∈l,evA F (.agg (valC x) :: caps) (.bool (p x))) (b:Bool):evA 266 [.sl b (l.map valC),.fn F caps] (.int .i64 (idxI p l)):=by
 refine q00 (c:=q1n) rfl rfl ?_;simp [q1n,-y0,-y5,-y4,y3];refine q0f l.length (fun i s=>(s.env 0).v=.sl b (l.map valC)/\(s.env 1).v=.fn F caps/\(s.env 7).v=.int .i64 l.length/\(s.env 8).v=.int .i64 i/\idxI p l=(if idxI p (l.drop i)=-1 then -1 else idxI p (l.drop i) + i))
  (fun e s=>(e=.exit 0/\idxI p l=-1)\/(e=.ret/\(s.env 4).v=.int .i64 (idxI p l))) (fun i hi s k h ih hk=>?_) _ _ ?_ (fun e s h=>?_)
 ·obtain ⟨e0,e1,e7,e8,hs⟩:=h;refine q04 ?_;by_cases hlt:i<l.length
  ·have hlt':(i:Int)<l.length:=by omega
   have g1:(l.map valC)[i]?=some (valC l[i]):=by simp [hlt]
   have hw:=q11 (i:=i) (by omega);have hx:=hF l[i] (y8 _);rw [yc hlt] at hs;generalize l[i]=x at *
   simp only [evA,q03] at g1 hx;cases hp:p x with
   | true =>
    rw [hp] at hx;simp [q15,-y0,-y5,-y4,y3,e0,e1,e7,e8,hlt',g1,hcap,hx];refine hk _ _ (.inr ⟨rfl,?_⟩);simp [hs,idxI,hp]
   | false =>
    rw [hp] at hx;simp [q15,-y0,-y5,-y4,y3,e0,e1,e7,e8,hlt',g1,hcap,hx,hw];refine ih hlt _ ⟨?_,?_,?_,?_,?_⟩
    ·simp [e0]
    ·simp [e1]
    ·simp [e7]
    ·simp
    ·rw [hs,q6D p x _ hp];have:=q3h p (l.drop (i + 1));by_cases h1:idxI p (l.drop (i + 1))=-1
     ·simp [h1]
     ·have h2:¬ idxI p (l.drop (i + 1)) + 1=-1:=by omega
      rw [if_neg h1,if_neg h2,if_neg h1];omega
  ·have hlt':¬ (i:Int)<l.length:=by omega
   simp [q15,-y0,-y5,-y4,y3,e7,e8,hlt'];rw [yg (by omega)] at hs;exact hk _ _ (.inl ⟨rfl,hs⟩)
 ·have:=q3h p l;by_cases h1:idxI p l=-1 <;> simp [h1]
 ·rcases h with ⟨rfl,h1⟩ | ⟨rfl,h1⟩ <;> simp [-y0,-y5,-y4,y3,h1]
theorem mem1_ev (x:Mem) (id:Int):evA 160 [.agg (memC x),.bp [.int .i64 id]] (.bool (decide (x.id=id))):=by
 refine q00 (c:=q34) rfl rfl ?_;simp [q34,-y0,-y5,-y4,y3,memC]
def q1l (l:List Mem) (id:Int):Int:=idxI (fun x=>decide (x.id=id)) l
def memA (l:List Mem) (id:Int):AV:=.tup [.int .i64 (max (q1l l id) 0),.bool (decide (0<=q1l l id))]
theorem mem_ev (t:Typ) (id:Int) (hl:t.mems.length<=9223372036854775807):evA 137 [.agg (typC t),.int .i64 id] (memA t.mems id):=by
 refine q00 (c:=q4l) rfl rfl ?_;have h:=indexf_Mem_ev 160 [.bp [.int .i64 id]] t.mems (fun x=>decide (x.id=id)) hl (fun _ _=>rfl) (fun x _=>mem1_ev x id) t.mn;simp only [evA] at h;unfold memA q1l;simp [q4l,-y0,-y5,-y4,y3,typC,h]
theorem rmem_ev (t:Typ) (id:Int) (hl:t.mems.length<=9223372036854775807):evA 99 [.agg (typC t),.int .i64 id] (memA t.mems id):=by
 refine q00 (c:=q4C) rfl rfl ?_;obtain ⟨p,hp⟩:∃ p:Mem->Bool,p=fun x=>decide (x.id=id):=⟨_,rfl⟩
 unfold memA q1l;rw [<- hp];simp [q4C,-y0,-y5,-y4,y3,typC];refine q0f t.mems.length (fun i s=>(s.env 1).v=.int .i64 id/\(s.env 2).v=.ptr 2 1 0/\s.mem 2 1=some (q0a t)/\(s.env 6).v=.int .i64 i/\idxI p t.mems=(if idxI p (t.mems.drop i)=-1 then -1 else idxI p (t.mems.drop i) + i))
  (fun e s=>(e=.exit 0/\idxI p t.mems=-1)\/(e=.ret/\0<=idxI p t.mems/\(s.env 4).v=.int .i64 (idxI p t.mems)/\(s.env 5).v=.bool true)) (fun i hi s k h ih hk=>?_) _ _ ?_ (fun e s h=>?_)
 ·obtain ⟨e1,e2,m2,e6,hs⟩:=h;refine q04 ?_;by_cases hlt:i<t.mems.length
  ·have hlt':(i:Int)<t.mems.length:=by omega
   have g1:(t.mems.map memC)[i]?=some (memC t.mems[i]):=by simp [hlt]
   have hw:=q11 (i:=i) (by omega);rw [yc hlt] at hs;generalize t.mems[i]=x at *
   simp only [memC] at g1;by_cases hx:x.id=id
   ·simp [q3n,-y0,-y5,-y4,y3,e1,e2,m2,e6,hlt',g1,hx];have hpx:p x=true:=by rw [hp]; exact decide_eq_true hx
    refine hk _ _ (.inr ⟨rfl,?_,?_,?_⟩)
    ·rw [hs]; simp [idxI,hpx]
    ·simp [hs,idxI,hpx]
    ·simp
   ·have hpx:p x=false:=by rw [hp]; exact decide_eq_false hx
    simp [q3n,-y0,-y5,-y4,y3,e1,e2,m2,e6,hlt',g1,hx,hw];refine ih hlt _ ⟨?_,?_,?_,?_,?_⟩
    ·simp [e1]
    ·simp [e2]
    ·simp [m2]
    ·simp
    ·rw [hs,q6D p x _ hpx];have:=q3h p (t.mems.drop (i + 1));by_cases h1:idxI p (t.mems.drop (i + 1))=-1
     ·simp [h1]
     ·have h2:¬ idxI p (t.mems.drop (i + 1)) + 1=-1:=by omega
      rw [if_neg h1,if_neg h2,if_neg h1];omega
  ·have hlt':¬ (i:Int)<t.mems.length:=by omega
   simp [q3n,-y0,-y5,-y4,y3,e2,m2,e6,hlt'];rw [yg (by omega)] at hs;exact hk _ _ (.inl ⟨rfl,hs⟩)
 ·have:=q3h p t.mems;by_cases h1:idxI p t.mems=-1 <;> simp [h1]
 ·rcases h with ⟨rfl,h1⟩ | ⟨rfl,h0,h1,h2⟩
  ·simp [-y0,-y5,-y4,y3,h1];rfl
  ·simp [-y0,-y5,-y4,y3,h1,h2,h0,Int.max_eq_left h0]
theorem sym1_ev (x:Sym) (id:Int):evA 193 [.agg (symC x),.bp [.int .i64 id]] (.bool (decide (x.id=id))):=by
 refine q00 (c:=q35) rfl rfl ?_;simp [q35,-y0,-y5,-y4,y3,symC]
def q5c (l:List Sym) (id:Int):Int:=idxI (fun x=>decide (x.id=id)) l
def symA (l:List Sym) (id:Int):AV:=.tup [.int .i64 (max (q5c l id) 0),.bool (decide (0<=q5c l id))]
theorem sym_ev (t:Typ) (id:Int) (hl:t.syms.length<=9223372036854775807):evA 154 [.agg (typC t),.int .i64 id] (symA t.syms id):=by
 refine q00 (c:=q4m) rfl rfl ?_;have h:=indexf_Sym_ev 193 [.bp [.int .i64 id]] t.syms (fun x=>decide (x.id=id)) hl (fun _ _=>rfl) (fun x _=>sym1_ev x id) t.sn;simp only [evA] at h;unfold symA q5c;simp [q4m,-y0,-y5,-y4,y3,typC,h]
theorem rsym_ev (t:Typ) (id:Int) (hl:t.syms.length<=9223372036854775807):evA 123 [.agg (typC t),.int .i64 id] (symA t.syms id):=by
 refine q00 (c:=q4D) rfl rfl ?_;obtain ⟨p,hp⟩:∃ p:Sym->Bool,p=fun x=>decide (x.id=id):=⟨_,rfl⟩
 unfold symA q5c;rw [<- hp];simp [q4D,-y0,-y5,-y4,y3,typC];refine q0f t.syms.length (fun i s=>(s.env 1).v=.int .i64 id/\(s.env 2).v=.ptr 2 1 0/\s.mem 2 1=some (q0a t)/\(s.env 6).v=.int .i64 i/\idxI p t.syms=(if idxI p (t.syms.drop i)=-1 then -1 else idxI p (t.syms.drop i) + i))
  (fun e s=>(e=.exit 0/\idxI p t.syms=-1)\/(e=.ret/\0<=idxI p t.syms/\(s.env 4).v=.int .i64 (idxI p t.syms)/\(s.env 5).v=.bool true)) (fun i hi s k h ih hk=>?_) _ _ ?_ (fun e s h=>?_)
 ·obtain ⟨e1,e2,m2,e6,hs⟩:=h;refine q04 ?_;by_cases hlt:i<t.syms.length
  ·have hlt':(i:Int)<t.syms.length:=by omega
   have g1:(t.syms.map symC)[i]?=some (symC t.syms[i]):=by simp [hlt]
   have hw:=q11 (i:=i) (by omega);rw [yc hlt] at hs;generalize t.syms[i]=x at *
   simp only [symC] at g1;by_cases hx:x.id=id
   ·simp [q3p,-y0,-y5,-y4,y3,e1,e2,m2,e6,hlt',g1,hx];have hpx:p x=true:=by rw [hp]; exact decide_eq_true hx
    refine hk _ _ (.inr ⟨rfl,?_,?_,?_⟩)
    ·rw [hs]; simp [idxI,hpx]
    ·simp [hs,idxI,hpx]
    ·simp
   ·have hpx:p x=false:=by rw [hp]; exact decide_eq_false hx
    simp [q3p,-y0,-y5,-y4,y3,e1,e2,m2,e6,hlt',g1,hx,hw];refine ih hlt _ ⟨?_,?_,?_,?_,?_⟩
    ·simp [e1]
    ·simp [e2]
    ·simp [m2]
    ·simp
    ·rw [hs,q6D p x _ hpx];have:=q3h p (t.syms.drop (i + 1));by_cases h1:idxI p (t.syms.drop (i + 1))=-1
     ·simp [h1]
     ·have h2:¬ idxI p (t.syms.drop (i + 1)) + 1=-1:=by omega
      rw [if_neg h1,if_neg h2,if_neg h1];omega
  ·have hlt':¬ (i:Int)<t.syms.length:=by omega
   simp [q3p,-y0,-y5,-y4,y3,e2,m2,e6,hlt'];rw [yg (by omega)] at hs;exact hk _ _ (.inl ⟨rfl,hs⟩)
 ·have:=q3h p t.syms;by_cases h1:idxI p t.syms=-1 <;> simp [h1]
 ·rcases h with ⟨rfl,h1⟩ | ⟨rfl,h0,h1,h2⟩
  ·simp [-y0,-y5,-y4,y3,h1];rfl
  ·simp [-y0,-y5,-y4,y3,h1,h2,h0,Int.max_eq_left h0]
def Typ.sm (t:Typ):Prop:=t.kind=2->-100<=t.low/\t.low<=t.high/\t.high<=100
def keysP (x:Typ):Int:=if x.kind=1 then 2 else if x.kind=2 then x.high - x.low + 1 else if x.kind=4 then x.syms.length else if x.kind=3/\x.max=0 then 1 else 2147483647
def keysR (x:Typ):Int:=if x.kind=1 then 2 else if x.kind=2 then min 100 (x.high - x.low + 1) else if x.kind=4 then x.syms.length else if x.max=0 then 1 else 100
theorem keys_ev (x:Typ) (hx:x.sm):evA 129 [.agg (typC x)] (.int .i64 (keysP x)):=by
 refine q00 (c:=q1p) rfl rfl ?_;unfold keysP;by_cases k1:x.kind=1
 ·simp [q1p,-y0,-y5,-y4,y3,typC,k1]
 by_cases k2:x.kind=2
 ·obtain ⟨h1,h2,h3⟩:=hx k2;have w1:IntKind.u64.wrap (IntKind.u64.wrap x.high - IntKind.u64.wrap x.low)=x.high - x.low:=by
   simp only [IntKind.wrap,IntKind.bits,IntKind.signed];simp;omega
  have c:x.high - x.low<2147483647:=by omega
  have w2:IntKind.i64.wrap (x.high - x.low)=x.high - x.low:=IntWalk.i64_in _ (by omega);have w3:IntKind.i64.wrap (x.high - x.low + 1)=x.high - x.low + 1:=IntWalk.i64_in _ (by omega);simp [q1p,-y0,-y5,-y4,y3,typC,k1,k2,w1,c,w2,w3]
 by_cases k4:x.kind=4
 ·simp [q1p,-y0,-y5,-y4,y3,typC,k1,k2,k4]
 by_cases k3:x.kind=3
 ·by_cases hm:x.max=0
  ·simp [q1p,-y0,-y5,-y4,y3,typC,k1,k2,k3,k4,hm]
  ·simp [q1p,-y0,-y5,-y4,y3,typC,k1,k2,k3,k4,hm]
 ·simp [q1p,-y0,-y5,-y4,y3,typC,k1,k2,k3,k4]
theorem rkeys_ev (x:Typ) (hx:x.sm):evA 132 [.agg (typC x)] (.int .i64 (keysR x)):=by
 refine q00 (c:=q2F) rfl rfl ?_;unfold keysR;by_cases k1:x.kind=1
 ·simp [q2F,-y0,-y5,-y4,y3,typC,k1]
 by_cases k2:x.kind=2
 ·obtain ⟨h1,h2,h3⟩:=hx k2;simp [q2F,-y0,-y5,-y4,y3,typC,k1,k2];refine q0f 100 (fun i s=>(s.env 1).v=.ptr 1 1 0/\s.mem 1 1=some (q0a x)/\(s.env 3).v=.int .i64 ((i:Int) + 1)/\(s.env 4).v=.int .i64 (x.low + i)/\x.low + i<=x.high/\i + 1<=100)
   (fun e s=>e=.exit 1/\(s.env 3).v=.int .i64 (min 100 (x.high - x.low + 1))) (fun i hi s k h ih hk=>?_) _ _ ?_ (fun e s h=>?_)
  ·obtain ⟨e1,m1,e3,e4,hle,h100⟩:=h;simp only [q0a] at m1;refine q04 ?_;by_cases c1:(i:Int) + 1<100
   ·by_cases c2:x.low + i<x.high
    ·have w1:IntKind.i64.wrap ((i:Int) + 1 + 1)=(i:Int) + 1 + 1:=IntWalk.i64_in _ (by omega);have w2:IntKind.i64.wrap (x.low + i + 1)=x.low + i + 1:=IntWalk.i64_in _ (by omega);simp [q4k,-y0,-y5,-y4,y3,e1,m1,e3,e4,c1,c2,w1,w2];refine ih (by omega) _ ⟨?_,?_,?_,?_,by omega,by omega⟩
     ·simp [e1]
     ·simp [m1]
     ·simp
     ·simp; omega
    ·simp [q4k,-y0,-y5,-y4,y3,e1,m1,e3,e4,c1,c2];refine hk _ _ ⟨rfl,?_⟩;simp [e3];omega
   ·simp [q4k,-y0,-y5,-y4,y3,e1,m1,e3,e4,c1];refine hk _ _ ⟨rfl,?_⟩;simp [e3];omega
  ·exact ⟨by simp,by simp [k2],by simp,by simp,by omega,by omega⟩
  ·obtain ⟨rfl,e3⟩:=h;simp [-y0,-y5,-y4,y3,e3]
 by_cases k4:x.kind=4
 ·simp [q2F,-y0,-y5,-y4,y3,typC,k1,k2,k4]
 by_cases hm:x.max=0
 ·simp [q2F,-y0,-y5,-y4,y3,typC,k1,k2,k4,hm]
 ·simp [q2F,-y0,-y5,-y4,y3,typC,k1,k2,k4,hm]
theorem keys_min (x:Typ) (hk:1<=x.kind/\x.kind<=4) (hx:x.sm) {m n:Int} (hm:m<=50):(n<min m (keysP x) ↔ n<min m (keysR x)):=by
 unfold keysP keysR;by_cases k1:x.kind=1
 ·rw [if_pos k1,if_pos k1]
 rw [if_neg k1,if_neg k1];by_cases k2:x.kind=2
 ·rw [if_pos k2,if_pos k2];omega
 rw [if_neg k2,if_neg k2];by_cases k4:x.kind=4
 ·rw [if_pos k4,if_pos k4]
 rw [if_neg k4,if_neg k4];by_cases h0:x.max=0
 ·rw [if_pos ⟨by omega,h0⟩,if_pos h0]
 ·rw [if_neg (fun h=>h0 h.2),if_neg h0];omega
def allP (x y:Typ):Bool:=x.syms.all (fun s=>decide (0<=q5c y.syms s.id))&&x.mems.all (fun m=>decide (0<=q1l y.mems m.id))
theorem q8R {α:Type} (p:α->Bool) (l:List α) {i:Nat} (h:i<l.length):(l.take (i + 1)).all p=((l.take i).all p&&p l[i]):=by
 rw [<- yR h,List.all_append];simp
theorem all_no {α:Type} (p:α->Bool) (l:List α) {i:Nat} (h:i<l.length) (hp:p l[i]=false):l.all p=false:=by
 rw [List.all_eq_false];exact ⟨_,y8 h,by simp [hp]⟩
theorem covered_ev (x y:Typ) (hxs:x.syms.length<=8796093022206) (hxm:x.mems.length<=8796093022206) (hys:y.syms.length<=8796093022206) (hym:y.mems.length<=8796093022206):evA 130 [.agg (typC x),.agg (typC y)] (.bool (y.opn||allP x y)):=by
 refine q00 (c:=q2j) rfl rfl ?_;cases ho:y.opn with
 | true=>simp [q2j,-y0,-y5,-y4,y3,typC,ho]
 | false =>
 have hp1:∀ l:List Sym,l.all (fun s=>decide (0<=q5c y.syms s.id))=false->allP x y=false\/l≠x.syms:=fun l h=>by
  by_cases e:l=x.syms
  ·left; unfold allP; rw [<- e,h]; rfl
  ·exact .inr e
 simp [q2j,-y0,-y5,-y4,y3,typC,ho];refine q0f x.syms.length (fun i s=>(s.env 2).v=.ptr 2 1 0/\(s.env 3).v=.ptr 3 1 0/\s.mem 2 1=some (q0a x)/\s.mem 3 1=some (q0a y)/\(s.env 16).v=.sl x.sn (x.syms.map symC)/\(s.env 17).v=.int .i64 x.syms.length/\(s.env 18).v=.int .i64 i/\(x.syms.take i).all (fun s=>decide (0<=q5c y.syms s.id))=true)
  (fun e s=>(e=.exit 0/\(s.env 2).v=.ptr 2 1 0/\(s.env 3).v=.ptr 3 1 0/\s.mem 2 1=some (q0a x)/\s.mem 3 1=some (q0a y)/\x.syms.all (fun s=>decide (0<=q5c y.syms s.id))=true)\/(e=.ret/\(s.env 4).v=.bool false/\allP x y=false)) (fun i hi s k h ih hk=>?_) _ _ ?_ (fun e s h=>?_)
 ·obtain ⟨e2,e3,m2,m3,e16,e17,e18,hal⟩:=h;refine q04 ?_;by_cases hlt:i<x.syms.length
  ·have hlt':(i:Int)<x.syms.length:=by omega
   have g1:(x.syms.map symC)[i]?=some (symC x.syms[i]):=by simp [hlt]
   have hw':=q11 (i:=i) (by omega);have hsy:=sym_ev y x.syms[i].id (by omega);have hsp:=q8R (fun s=>decide (0<=q5c y.syms s.id)) x.syms hlt;have hno:=all_no (fun s=>decide (0<=q5c y.syms s.id)) x.syms hlt;generalize x.syms[i]=q at *
   simp only [symC] at g1;simp only [q0a] at m2 m3;simp only [evA,typC,symA,ho] at hsy;by_cases c:0<=q5c y.syms q.id
   ·simp only [c,decide_true] at hsy hsp;simp [q2l,-y0,-y5,-y4,y3,e2,e3,m3,e16,e17,e18,hlt',g1,hsy,hw',ho];refine ih hlt _ ⟨?_,?_,?_,?_,?_,?_,?_,by rw [hsp,hal]; rfl⟩ <;> simp [e2,e3,m2,m3,e16,e17,q0a,ho]
   ·simp only [c,decide_false] at hsy hno;simp [q2l,-y0,-y5,-y4,y3,e2,e3,m3,e16,e17,e18,hlt',g1,hsy,hw',ho];refine hk _ _ (.inr ⟨rfl,by simp,?_⟩);unfold allP;rw [hno trivial];rfl
  ·have hlt':¬ (i:Int)<x.syms.length:=by omega
   simp [q2l,-y0,-y5,-y4,y3,e17,e18,hlt'];refine hk _ _ (.inl ⟨rfl,by simp [e2],by simp [e3],by simp [m2],by simp [m3],?_⟩);rw [yO (by omega)] at hal;exact hal
 ·refine ⟨?_,?_,?_,?_,?_,?_,?_,?_⟩ <;> simp [q0a,ho]
 rcases h with ⟨rfl,e2,e3,m2,m3,hal⟩ | ⟨rfl,e4,hf⟩
 case inr=>simp [-y0,-y5,-y4,y3,e4,hf]
 simp only [q0a] at m2;simp [-y0,-y5,-y4,y3,e2,m2];refine q0f x.mems.length (fun i s=>(s.env 3).v=.ptr 3 1 0/\s.mem 3 1=some (q0a y)/\(s.env 33).v=.sl x.mn (x.mems.map memC)/\(s.env 34).v=.int .i64 x.mems.length/\(s.env 35).v=.int .i64 i/\(x.mems.take i).all (fun s=>decide (0<=q1l y.mems s.id))=true)
  (fun e s=>(e=.exit 2/\allP x y=true)\/(e=.ret/\(s.env 4).v=.bool false/\allP x y=false)) (fun i hi s k h ih hk=>?_) _ _ ?_ (fun e s h=>?_)
 ·obtain ⟨e3,m3,e33,e34,e35,hal2⟩:=h;refine q04 ?_;by_cases hlt:i<x.mems.length
  ·have hlt':(i:Int)<x.mems.length:=by omega
   have g1:(x.mems.map memC)[i]?=some (memC x.mems[i]):=by simp [hlt]
   have hw':=q11 (i:=i) (by omega);have hsy:=mem_ev y x.mems[i].id (by omega);have hsp:=q8R (fun s=>decide (0<=q1l y.mems s.id)) x.mems hlt;have hno:=all_no (fun s=>decide (0<=q1l y.mems s.id)) x.mems hlt;generalize x.mems[i]=q at *
   simp only [memC] at g1;simp only [q0a] at m3;simp only [evA,typC,memA,ho] at hsy;by_cases c:0<=q1l y.mems q.id
   ·simp only [c,decide_true] at hsy hsp;simp [q2k,-y0,-y5,-y4,y3,e3,m3,e33,e34,e35,hlt',g1,hsy,hw',ho];refine ih hlt _ ⟨?_,?_,?_,?_,?_,by rw [hsp,hal2]; rfl⟩ <;> simp [e3,m3,e33,e34,q0a,ho]
   ·simp only [c,decide_false] at hsy hno;simp [q2k,-y0,-y5,-y4,y3,e3,m3,e33,e34,e35,hlt',g1,hsy,hw',ho];refine hk _ _ (.inr ⟨rfl,by simp,?_⟩);unfold allP;rw [hno trivial,Bool.and_false]
  ·have hlt':¬ (i:Int)<x.mems.length:=by omega
   simp [q2k,-y0,-y5,-y4,y3,e34,e35,hlt'];refine hk _ _ (.inl ⟨rfl,?_⟩);rw [yO (by omega)] at hal2;unfold allP;rw [hal,hal2];rfl
 ·refine ⟨?_,?_,?_,?_,?_,?_⟩ <;> simp [e3,m3,q0a,ho]
 ·rcases h with ⟨rfl,hf⟩ | ⟨rfl,e4,hf⟩
  ·simp [-y0,-y5,-y4,y3,hf]
  ·simp [-y0,-y5,-y4,y3,e4,hf]
theorem rall_ev (x y:Typ) (hxs:x.syms.length<=8796093022206) (hxm:x.mems.length<=8796093022206) (hys:y.syms.length<=8796093022206) (hym:y.mems.length<=8796093022206):evA 133 [.agg (typC x),.agg (typC y)] (.bool (allP x y)):=by
 refine q00 (c:=q6Z) rfl rfl ?_;simp [q6Z,-y0,-y5,-y4,y3,typC];refine q0f x.syms.length (fun i s=>(s.env 2).v=.ptr 2 1 0/\(s.env 3).v=.ptr 3 1 0/\s.mem 2 1=some (q0a x)/\s.mem 3 1=some (q0a y)/\(s.env 5).v=.int .i64 i/\(x.syms.take i).all (fun s=>decide (0<=q5c y.syms s.id))=true)
  (fun e s=>(e=.exit 0/\(s.env 2).v=.ptr 2 1 0/\(s.env 3).v=.ptr 3 1 0/\s.mem 2 1=some (q0a x)/\s.mem 3 1=some (q0a y)/\x.syms.all (fun s=>decide (0<=q5c y.syms s.id))=true)\/(e=.ret/\(s.env 4).v=.bool false/\allP x y=false)) (fun i hi s k h ih hk=>?_) _ _ ?_ (fun e s h=>?_)
 ·obtain ⟨e2,e3,m2,m3,e5,hal⟩:=h;refine q04 ?_;by_cases hlt:i<x.syms.length
  ·have hlt':(i:Int)<x.syms.length:=by omega
   have g1:(x.syms.map symC)[i]?=some (symC x.syms[i]):=by simp [hlt]
   have hw':=q11 (i:=i) (by omega);have hsy:=rsym_ev y x.syms[i].id (by omega);have hsp:=q8R (fun s=>decide (0<=q5c y.syms s.id)) x.syms hlt;have hno:=all_no (fun s=>decide (0<=q5c y.syms s.id)) x.syms hlt;generalize x.syms[i]=q at *
   simp only [symC] at g1;simp only [q0a] at m2 m3;simp only [evA,typC,symA] at hsy;by_cases c:0<=q5c y.syms q.id
   ·simp only [c,decide_true] at hsy hsp;simp [q4L,-y0,-y5,-y4,y3,e2,e3,m2,m3,e5,hlt',g1,hsy,hw'];refine ih hlt _ ⟨?_,?_,?_,?_,?_,by rw [hsp,hal]; rfl⟩ <;> simp [e2,e3,m2,m3,q0a]
   ·simp only [c,decide_false] at hsy hno;simp [q4L,-y0,-y5,-y4,y3,e2,e3,m2,m3,e5,hlt',g1,hsy,hw'];refine hk _ _ (.inr ⟨rfl,by simp,?_⟩);unfold allP;rw [hno trivial];rfl
  ·have hlt':¬ (i:Int)<x.syms.length:=by omega
   simp only [q0a] at m2;simp [q4L,-y0,-y5,-y4,y3,e2,m2,e5,hlt'];refine hk _ _ (.inl ⟨rfl,by simp [e2],by simp [e3],by simp [m2],by simp [m3],?_⟩);rw [yO (by omega)] at hal;exact hal
 ·refine ⟨?_,?_,?_,?_,?_,?_⟩ <;> simp [q0a]
 rcases h with ⟨rfl,e2,e3,m2,m3,hal⟩ | ⟨rfl,e4,hf⟩
 case inr=>simp [-y0,-y5,-y4,y3,e4,hf]
 simp only [q0a] at m2;simp [-y0,-y5,-y4,y3];refine q0f x.mems.length (fun i s=>(s.env 2).v=.ptr 2 1 0/\(s.env 3).v=.ptr 3 1 0/\s.mem 2 1=some (q0a x)/\s.mem 3 1=some (q0a y)/\(s.env 8).v=.int .i64 i/\(x.mems.take i).all (fun s=>decide (0<=q1l y.mems s.id))=true)
  (fun e s=>(e=.exit 2/\allP x y=true)\/(e=.ret/\(s.env 4).v=.bool false/\allP x y=false)) (fun i hi s k h ih hk=>?_) _ _ ?_ (fun e s h=>?_)
 ·obtain ⟨e2,e3,m2,m3,e8,hal2⟩:=h;refine q04 ?_;simp only [q0a] at m2 m3;by_cases hlt:i<x.mems.length
  ·have hlt':(i:Int)<x.mems.length:=by omega
   have g1:(x.mems.map memC)[i]?=some (memC x.mems[i]):=by simp [hlt]
   have hw':=q11 (i:=i) (by omega);have hsy:=rmem_ev y x.mems[i].id (by omega);have hsp:=q8R (fun s=>decide (0<=q1l y.mems s.id)) x.mems hlt;have hno:=all_no (fun s=>decide (0<=q1l y.mems s.id)) x.mems hlt;generalize x.mems[i]=q at *
   simp only [memC] at g1;simp only [evA,typC,memA] at hsy;by_cases c:0<=q1l y.mems q.id
   ·simp only [c,decide_true] at hsy hsp;simp [q4K,-y0,-y5,-y4,y3,e2,e3,m2,m3,e8,hlt',g1,hsy,hw'];refine ih hlt _ ⟨?_,?_,?_,?_,?_,by rw [hsp,hal2]; rfl⟩ <;> simp [e2,e3,m2,m3,q0a]
   ·simp only [c,decide_false] at hsy hno;simp [q4K,-y0,-y5,-y4,y3,e2,e3,m2,m3,e8,hlt',g1,hsy,hw'];refine hk _ _ (.inr ⟨rfl,by simp,?_⟩);unfold allP;rw [hno trivial,Bool.and_false]
  ·have hlt':¬ (i:Int)<x.mems.length:=by omega
   simp [q4K,-y0,-y5,-y4,y3,e2,m2,e8,hlt'];refine hk _ _ (.inl ⟨rfl,?_⟩);rw [yO (by omega)] at hal2;unfold allP;rw [hal,hal2];rfl
 ·refine ⟨?_,?_,?_,?_,?_,?_⟩ <;> simp [e2,e3,m2,m3,q0a]
 ·rcases h with ⟨rfl,hf⟩ | ⟨rfl,e4,hf⟩
  ·simp [-y0,-y5,-y4,y3,hf]
  ·simp [-y0,-y5,-y4,y3,e4,hf]
def recP (mns:Mem->Mem->Bool) (xs:List Mem):List Mem->Int
 | []=>0
 | g :: r=>if 0<=q1l xs g.id then (match xs[(q1l xs g.id).toNat]? with
   | some f=>if f.has=true then (if g.has=true then (if mns f g=true then recP mns xs r else 10) else 7) else recP mns xs r
   | none=>recP mns xs r) else if g.has=true then recP mns xs r else 7
def crP (ys:List Mem) (f:Mem):Bool:=f.crit&&!decide (0<=q1l ys f.id)
def q9F (mns:Mem->Mem->Bool) (xs ys:List Mem):Int:=if recP mns xs ys=0 then (if xs.any (crP ys)=true then 6 else 0) else recP mns xs ys
def Means2 (w r:Sch) (mns:Mem->Mem->Bool) (xs ys:List Mem):Prop:=∀ f∈xs,∀ g∈ys,f.has=true->g.has=true →
 (∃ (u:Vl) (e:Int),evA 155 [.agg (schC w),.int .i64 f.ty,.agg (valC f.dflt),.agg (schC r),.int .i64 g.ty] (.tup [.agg (valC u),.int .i64 e])/\(e=0->evA 156 [.agg (valC u),.agg (valC g.dflt)] (.bool (mns f g)))/\(e≠0->mns f g=false)) ∧
 evA 157 [.agg (schC w),.int .i64 f.ty,.agg (valC f.dflt),.agg (schC r),.int .i64 g.ty,.agg (valC g.dflt)] (.bool (mns f g))
theorem any_take' {α:Type} (p:α->Bool) (l:List α) {i:Nat} (h:i<l.length):(l.take (i + 1)).any p=((l.take i).any p||p l[i]):=by
 rw [<- yR h,List.any_append];simp
theorem any_yes {α:Type} (p:α->Bool) (l:List α) {i:Nat} (h:i<l.length) (hp:p l[i]=true):l.any p=true:=List.any_eq_true.2 ⟨_,y8 h,hp⟩
theorem q86 {l:List Mem} {id:Int} (h:0<=q1l l id):∃ f,l[(q1l l id).toNat]?=some f/\f∈l:=by
 obtain ⟨f,h1,_⟩:=q95 (fun x:Mem=>decide (x.id=id)) l (by unfold q1l at h; omega);exact ⟨f,h1,yo h1⟩
theorem smembers_ev (w r:Sch) (x y:Typ) (hxm:x.mems.length<=8796093022206) (hym:y.mems.length<=8796093022206) {mns:Mem->Mem->Bool} (hR:Means2 w r mns x.mems y.mems):evA 131 [.agg (schC w),.agg (typC x),.agg (schC r),.agg (typC y)] (.int .i64 (q9F mns x.mems y.mems)):=by
 refine q00 (c:=q36) rfl rfl ?_;simp only [schC];simp [q36,-y0,-y5,-y4,y3,typC];refine q0f y.mems.length (fun i s=>(s.env 4).v=.ptr 4 1 0/\(s.env 5).v=.ptr 5 1 0/\(s.env 6).v=.ptr 6 1 0/\(s.env 7).v=.ptr 7 1 0/\s.mem 4 1=some [⟨.sl w.nl (w.types.map typC),.no⟩]/\s.mem 5 1=some (q0a x)/\s.mem 6 1=some [⟨.sl r.nl (r.types.map typC),.no⟩]/\s.mem 7 1=some (q0a y)/\(s.env 21).v=.sl y.mn (y.mems.map memC)/\(s.env 22).v=.int .i64 y.mems.length/\(s.env 23).v=.int .i64 i/\recP mns x.mems (y.mems.drop i)=recP mns x.mems y.mems)
  (fun e s=>(e=.exit 0/\(s.env 5).v=.ptr 5 1 0/\(s.env 7).v=.ptr 7 1 0/\s.mem 5 1=some (q0a x)/\s.mem 7 1=some (q0a y)/\recP mns x.mems y.mems=0)\/(e=.ret/\(s.env 8).v=.int .i64 (q9F mns x.mems y.mems))) (fun i hi s k h ih hk=>?_) _ _ ?_ (fun e s h=>?_)
 ·obtain ⟨e4,e5,e6,e7,m4,m5,m6,m7,e21,e22,e23,hrec⟩:=h;refine q04 ?_;by_cases hlt:i<y.mems.length
  ·have hlt':(i:Int)<y.mems.length:=by omega
   have g1:(y.mems.map memC)[i]?=some (memC y.mems[i]):=by simp [hlt]
   have hw':=q11 (i:=i) (by omega);have hgm:=y8 hlt;rw [yc hlt,recP] at hrec;generalize y.mems[i]=g at *
   have hsy:=mem_ev x g.id (by omega);simp only [memC] at g1;simp only [q0a] at m5 m7;simp only [evA,typC,memA] at hsy;have done:∀ (E:Nat->Slot) (M:Nat->Nat->Option (List Slot)) (nx:Nat) (z:Int),(E 8).v=.int .i64 z->recP mns x.mems y.mems=z->z≠0->k .ret ⟨E,M,nx,s.obj,s.gh⟩=some (.int .i64 (q9F mns x.mems y.mems),none):=fun E M nx z h1 h2 h3=>hk _ _ (.inr ⟨rfl,by unfold q9F; rw [if_neg (by omega),h2]; exact h1⟩)
   by_cases c:0<=q1l x.mems g.id
   ·obtain ⟨f,hf,hfm⟩:=q86 c;rw [if_pos c,hf] at hrec;simp only at hrec;simp only [c,decide_true] at hsy;have gf:(x.mems.map memC)[(q1l x.mems g.id).toNat]?=some (memC f):=by rw [yf,hf]; rfl
    have hmax:max (q1l x.mems g.id) 0=q1l x.mems g.id:=by omega
    generalize q1l x.mems g.id=ix at *
    rw [hmax] at hsy;simp only [memC] at gf;by_cases hfh:f.has=true
    ·rw [if_pos hfh] at hrec;by_cases hgh:g.has=true
     ·rw [if_pos hgh] at hrec;obtain ⟨⟨u,e,hrd,hq0,hq1⟩,_⟩:=hR f hfm g hgm hfh hgh;simp only [evA,schC,q03] at hrd hq0;by_cases he:e=0
      ·have hq:=hq0 he;subst he;by_cases hm:mns f g=true
       ·rw [if_pos hm] at hrec;rw [hm] at hq;simp [q0y,-y0,-y5,-y4,y3,e4,e5,e6,e7,m4,m5,m6,m7,e21,e22,e23,hlt',g1,hsy,gf,c,hfh,hgh,hrd,hq,hw'];refine ih hlt _ ⟨?_,?_,?_,?_,?_,?_,?_,?_,?_,?_,?_,hrec⟩ <;> simp [e4,e5,e6,e7,m4,m5,m6,m7,e21,e22,q0a]
       ·have hm':mns f g=false:=by simpa using hm
        rw [if_neg hm] at hrec;rw [hm'] at hq;simp [q0y,-y0,-y5,-y4,y3,e4,e5,e6,e7,m4,m5,m6,m7,e21,e22,e23,hlt',g1,hsy,gf,c,hfh,hgh,hrd,hq,hw'];exact done _ _ _ 10 (by simp) hrec.symm (by omega)
      ·have hm':=hq1 he;rw [if_neg (by simp [hm'])] at hrec;simp [q0y,-y0,-y5,-y4,y3,e4,e5,e6,e7,m4,m5,m6,m7,e21,e22,e23,hlt',g1,hsy,gf,c,hfh,hgh,hrd,he,hw'];exact done _ _ _ 10 (by simp) hrec.symm (by omega)
     ·have hgh':g.has=false:=by simpa using hgh
      rw [if_neg hgh] at hrec;simp [q0y,-y0,-y5,-y4,y3,e4,e5,e6,e7,m4,m5,m6,m7,e21,e22,e23,hlt',g1,hsy,gf,c,hfh,hgh',hw'];exact done _ _ _ 7 (by simp) hrec.symm (by omega)
    ·have hfh':f.has=false:=by simpa using hfh
     rw [if_neg hfh] at hrec;simp [q0y,-y0,-y5,-y4,y3,e4,e5,e6,e7,m4,m5,m6,m7,e21,e22,e23,hlt',g1,hsy,gf,c,hfh',hw'];refine ih hlt _ ⟨?_,?_,?_,?_,?_,?_,?_,?_,?_,?_,?_,hrec⟩ <;> simp [e4,e5,e6,e7,m4,m5,m6,m7,e21,e22,q0a]
   ·rw [if_neg c] at hrec;simp only [c,decide_false] at hsy;by_cases hgh:g.has=true
    ·rw [if_pos hgh] at hrec;simp [q0y,-y0,-y5,-y4,y3,e4,e5,e6,e7,m4,m5,m6,m7,e21,e22,e23,hlt',g1,hsy,hgh,hw'];refine ih hlt _ ⟨?_,?_,?_,?_,?_,?_,?_,?_,?_,?_,?_,hrec⟩ <;> simp [e4,e5,e6,e7,m4,m5,m6,m7,e21,e22,q0a]
    ·have hgh':g.has=false:=by simpa using hgh
     rw [if_neg hgh] at hrec;simp [q0y,-y0,-y5,-y4,y3,e4,e5,e6,e7,m4,m5,m6,m7,e21,e22,e23,hlt',g1,hsy,hgh',hw'];exact done _ _ _ 7 (by simp) hrec.symm (by omega)
  ·have hlt':¬ (i:Int)<y.mems.length:=by omega
   simp [q0y,-y0,-y5,-y4,y3,e22,e23,hlt'];refine hk _ _ (.inl ⟨rfl,by simp [e5],by simp [e7],by simp [m5],by simp [m7],?_⟩);rw [yg (by omega),recP] at hrec;exact hrec.symm
 ·refine ⟨?_,?_,?_,?_,?_,?_,?_,?_,?_,?_,?_,?_⟩ <;> simp [q0a]
 rcases h with ⟨rfl,e5,e7,m5,m7,h0⟩ | ⟨rfl,e8⟩
 case inr=>simp [-y0,-y5,-y4,y3,e8]
 simp only [q0a] at m5;simp [-y0,-y5,-y4,y3,e5,m5];have hres:q9F mns x.mems y.mems=if x.mems.any (crP y.mems)=true then 6 else 0:=by unfold q9F; rw [if_pos h0]
 refine q0f x.mems.length (fun i s=>(s.env 7).v=.ptr 7 1 0/\s.mem 7 1=some (q0a y)/\(s.env 73).v=.sl x.mn (x.mems.map memC)/\(s.env 74).v=.int .i64 x.mems.length/\(s.env 75).v=.int .i64 i/\(x.mems.take i).any (crP y.mems)=false)
  (fun e s=>(e=.exit 2/\x.mems.any (crP y.mems)=false)\/(e=.ret/\(s.env 8).v=.int .i64 6/\x.mems.any (crP y.mems)=true)) (fun i hi s k h ih hk=>?_) _ _ ?_ (fun e s h=>?_)
 ·obtain ⟨e7,m7,e73,e74,e75,hal⟩:=h;refine q04 ?_;by_cases hlt:i<x.mems.length
  ·have hlt':(i:Int)<x.mems.length:=by omega
   have g1:(x.mems.map memC)[i]?=some (memC x.mems[i]):=by simp [hlt]
   have hw':=q11 (i:=i) (by omega);have hsy:=mem_ev y x.mems[i].id (by omega);have hsp:=any_take' (crP y.mems) x.mems hlt;have hys:=any_yes (crP y.mems) x.mems hlt;generalize x.mems[i]=q at *
   simp only [memC] at g1;simp only [q0a] at m7;simp only [evA,typC,memA] at hsy;simp only [crP] at hsp hys;by_cases c:0<=q1l y.mems q.id
   ·simp only [c,decide_true] at hsy;simp only [c,decide_true,Bool.not_true,Bool.and_false,Bool.or_false] at hsp;simp [q1J,-y0,-y5,-y4,y3,e7,m7,e73,e74,e75,hlt',g1,hsy,hw'];refine ih hlt _ ⟨?_,?_,?_,?_,?_,hsp.trans hal⟩ <;> simp [e7,m7,e73,e74,q0a]
   ·simp only [c,decide_false] at hsy;cases hcr:q.crit with
    | true =>
     simp [q1J,-y0,-y5,-y4,y3,e7,m7,e73,e74,e75,hlt',g1,hsy,hcr,hw'];exact hk _ _ (.inr ⟨rfl,by simp,hys (by simp [hcr,c])⟩)
    | false =>
     simp [q1J,-y0,-y5,-y4,y3,e7,m7,e73,e74,e75,hlt',g1,hsy,hcr,hw'];refine ih hlt _ ⟨?_,?_,?_,?_,?_,by rw [hsp,hal,hcr]; rfl⟩ <;> simp [e7,m7,e73,e74,q0a]
  ·have hlt':¬ (i:Int)<x.mems.length:=by omega
   simp [q1J,-y0,-y5,-y4,y3,e74,e75,hlt'];rw [yO (by omega)] at hal;exact hk _ _ (.inl ⟨rfl,hal⟩)
 ·refine ⟨?_,?_,?_,?_,?_,?_⟩ <;> simp [e7,m7,q0a]
 ·rcases h with ⟨rfl,hf⟩ | ⟨rfl,e8,hf⟩
  ·simp [-y0,-y5,-y4,y3,hres,hf]
  ·simp [-y0,-y5,-y4,y3,e8,hres,hf]
theorem rrecord_ev (w r:Sch) (x y:Typ) (hxm:x.mems.length<=8796093022206) (hym:y.mems.length<=8796093022206) {mns:Mem->Mem->Bool} (hR:Means2 w r mns x.mems y.mems):evA 134 [.agg (schC w),.agg (typC x),.agg (schC r),.agg (typC y)] (.int .i64 (q9F mns x.mems y.mems)):=by
 refine q00 (c:=q4M) rfl rfl ?_;simp only [schC];simp [q4M,-y0,-y5,-y4,y3,typC];refine q0f y.mems.length (fun i s=>(s.env 4).v=.ptr 4 1 0/\(s.env 5).v=.ptr 5 1 0/\(s.env 6).v=.ptr 6 1 0/\(s.env 7).v=.ptr 7 1 0/\s.mem 4 1=some [⟨.sl w.nl (w.types.map typC),.no⟩]/\s.mem 5 1=some (q0a x)/\s.mem 6 1=some [⟨.sl r.nl (r.types.map typC),.no⟩]/\s.mem 7 1=some (q0a y)/\(s.env 9).v=.int .i64 i/\recP mns x.mems (y.mems.drop i)=recP mns x.mems y.mems)
  (fun e s=>(e=.exit 0/\(s.env 5).v=.ptr 5 1 0/\(s.env 7).v=.ptr 7 1 0/\s.mem 5 1=some (q0a x)/\s.mem 7 1=some (q0a y)/\recP mns x.mems y.mems=0)\/(e=.ret/\(s.env 8).v=.int .i64 (q9F mns x.mems y.mems))) (fun i hi s k h ih hk=>?_) _ _ ?_ (fun e s h=>?_)
 ·obtain ⟨e4,e5,e6,e7,m4,m5,m6,m7,e9,hrec⟩:=h;refine q04 ?_;simp only [q0a] at m5 m7;by_cases hlt:i<y.mems.length
  ·have hlt':(i:Int)<y.mems.length:=by omega
   have g1:(y.mems.map memC)[i]?=some (memC y.mems[i]):=by simp [hlt]
   have hw':=q11 (i:=i) (by omega);have hgm:=y8 hlt;rw [yc hlt,recP] at hrec;generalize y.mems[i]=g at *
   have hsy:=rmem_ev x g.id (by omega);simp only [memC] at g1;simp only [evA,typC,memA] at hsy;have done:∀ (E:Nat->Slot) (M:Nat->Nat->Option (List Slot)) (nx:Nat) (z:Int),(E 8).v=.int .i64 z->recP mns x.mems y.mems=z->z≠0->k .ret ⟨E,M,nx,s.obj,s.gh⟩=some (.int .i64 (q9F mns x.mems y.mems),none):=fun E M nx z h1 h2 h3=>hk _ _ (.inr ⟨rfl,by unfold q9F; rw [if_neg (by omega),h2]; exact h1⟩)
   by_cases c:0<=q1l x.mems g.id
   ·obtain ⟨f,hf,hfm⟩:=q86 c;rw [if_pos c,hf] at hrec;simp only at hrec;simp only [c,decide_true] at hsy;have gf:(x.mems.map memC)[(q1l x.mems g.id).toNat]?=some (memC f):=by rw [yf,hf]; rfl
    have hmax:max (q1l x.mems g.id) 0=q1l x.mems g.id:=by omega
    generalize q1l x.mems g.id=ix at *
    rw [hmax] at hsy;simp only [memC] at gf;by_cases hfh:f.has=true
    ·rw [if_pos hfh] at hrec;by_cases hgh:g.has=true
     ·rw [if_pos hgh] at hrec;obtain ⟨_,hq⟩:=hR f hfm g hgm hfh hgh;simp only [evA,schC,q03] at hq;by_cases hm:mns f g=true
      ·rw [if_pos hm] at hrec;rw [hm] at hq;simp [q12,-y0,-y5,-y4,y3,e4,e5,e6,e7,m4,m5,m6,m7,e9,hlt',g1,hsy,gf,c,hfh,hgh,hq,hw'];refine ih hlt _ ⟨?_,?_,?_,?_,?_,?_,?_,?_,?_,hrec⟩ <;> simp [e4,e5,e6,e7,m4,m5,m6,m7,q0a]
      ·have hm':mns f g=false:=by simpa using hm
       rw [if_neg hm] at hrec;rw [hm'] at hq;simp [q12,-y0,-y5,-y4,y3,e4,e5,e6,e7,m4,m5,m6,m7,e9,hlt',g1,hsy,gf,c,hfh,hgh,hq,hw'];exact done _ _ _ 10 (by simp) hrec.symm (by omega)
     ·have hgh':g.has=false:=by simpa using hgh
      rw [if_neg hgh] at hrec;simp [q12,-y0,-y5,-y4,y3,e4,e5,e6,e7,m4,m5,m6,m7,e9,hlt',g1,hsy,gf,c,hfh,hgh',hw'];exact done _ _ _ 7 (by simp) hrec.symm (by omega)
    ·have hfh':f.has=false:=by simpa using hfh
     rw [if_neg hfh] at hrec;cases hgh:g.has with
     | true =>
      simp [q12,-y0,-y5,-y4,y3,e4,e5,e6,e7,m4,m5,m6,m7,e9,hlt',g1,hsy,gf,c,hfh',hgh,hw'];refine ih hlt _ ⟨?_,?_,?_,?_,?_,?_,?_,?_,?_,hrec⟩ <;> simp [e4,e5,e6,e7,m4,m5,m6,m7,q0a]
     | false =>
      simp [q12,-y0,-y5,-y4,y3,e4,e5,e6,e7,m4,m5,m6,m7,e9,hlt',g1,hsy,gf,c,hfh',hgh,hw'];refine ih hlt _ ⟨?_,?_,?_,?_,?_,?_,?_,?_,?_,hrec⟩ <;> simp [e4,e5,e6,e7,m4,m5,m6,m7,q0a]
   ·rw [if_neg c] at hrec;simp only [c,decide_false] at hsy;by_cases hgh:g.has=true
    ·rw [if_pos hgh] at hrec;simp [q12,-y0,-y5,-y4,y3,e4,e5,e6,e7,m4,m5,m6,m7,e9,hlt',g1,hsy,hgh,hw'];refine ih hlt _ ⟨?_,?_,?_,?_,?_,?_,?_,?_,?_,hrec⟩ <;> simp [e4,e5,e6,e7,m4,m5,m6,m7,q0a]
    ·have hgh':g.has=false:=by simpa using hgh
     rw [if_neg hgh] at hrec;simp [q12,-y0,-y5,-y4,y3,e4,e5,e6,e7,m4,m5,m6,m7,e9,hlt',g1,hsy,hgh',hw'];exact done _ _ _ 7 (by simp) hrec.symm (by omega)
  ·have hlt':¬ (i:Int)<y.mems.length:=by omega
   simp [q12,-y0,-y5,-y4,y3,e7,m7,e9,hlt'];refine hk _ _ (.inl ⟨rfl,by simp [e5],by simp [e7],by simp [m5],by simp [m7],?_⟩);rw [yg (by omega),recP] at hrec;exact hrec.symm
 ·refine ⟨?_,?_,?_,?_,?_,?_,?_,?_,?_,?_⟩ <;> simp [q0a]
 rcases h with ⟨rfl,e5,e7,m5,m7,h0⟩ | ⟨rfl,e8⟩
 case inr=>simp [-y0,-y5,-y4,y3,e8]
 simp [-y0,-y5,-y4,y3];have hres:q9F mns x.mems y.mems=if x.mems.any (crP y.mems)=true then 6 else 0:=by unfold q9F; rw [if_pos h0]
 refine q0f x.mems.length (fun i s=>(s.env 5).v=.ptr 5 1 0/\(s.env 7).v=.ptr 7 1 0/\s.mem 5 1=some (q0a x)/\s.mem 7 1=some (q0a y)/\(s.env 13).v=.int .i64 i/\(x.mems.take i).any (crP y.mems)=false)
  (fun e s=>(e=.exit 2/\x.mems.any (crP y.mems)=false)\/(e=.ret/\(s.env 8).v=.int .i64 6/\x.mems.any (crP y.mems)=true)) (fun i hi s k h ih hk=>?_) _ _ ?_ (fun e s h=>?_)
 ·obtain ⟨e5,e7,m5,m7,e13,hal⟩:=h;refine q04 ?_;simp only [q0a] at m5 m7;by_cases hlt:i<x.mems.length
  ·have hlt':(i:Int)<x.mems.length:=by omega
   have g1:(x.mems.map memC)[i]?=some (memC x.mems[i]):=by simp [hlt]
   have hw':=q11 (i:=i) (by omega);have hsy:=rmem_ev y x.mems[i].id (by omega);have hsp:=any_take' (crP y.mems) x.mems hlt;have hys:=any_yes (crP y.mems) x.mems hlt;generalize x.mems[i]=q at *
   simp only [memC] at g1;simp only [evA,typC,memA] at hsy;simp only [crP] at hsp hys;by_cases c:0<=q1l y.mems q.id
   ·simp only [c,decide_true] at hsy;simp only [c,decide_true,Bool.not_true,Bool.and_false,Bool.or_false] at hsp;simp [q2C,-y0,-y5,-y4,y3,e5,e7,m5,m7,e13,hlt',g1,hsy,hw'];refine ih hlt _ ⟨?_,?_,?_,?_,?_,hsp.trans hal⟩ <;> simp [e5,e7,m5,m7,q0a]
   ·simp only [c,decide_false] at hsy;cases hcr:q.crit with
    | true =>
     simp [q2C,-y0,-y5,-y4,y3,e5,e7,m5,m7,e13,hlt',g1,hsy,hcr,hw'];exact hk _ _ (.inr ⟨rfl,by simp,hys (by simp [hcr,c])⟩)
    | false =>
     simp [q2C,-y0,-y5,-y4,y3,e5,e7,m5,m7,e13,hlt',g1,hsy,hcr,hw'];refine ih hlt _ ⟨?_,?_,?_,?_,?_,by rw [hsp,hal,hcr]; rfl⟩ <;> simp [e5,e7,m5,m7,q0a]
  ·have hlt':¬ (i:Int)<x.mems.length:=by omega
   simp [q2C,-y0,-y5,-y4,y3,e5,m5,e13,hlt'];rw [yO (by omega)] at hal;exact hk _ _ (.inl ⟨rfl,hal⟩)
 ·refine ⟨?_,?_,?_,?_,?_,?_⟩ <;> simp [e5,e7,m5,m7,q0a]
 ·rcases h with ⟨rfl,hf⟩ | ⟨rfl,e8,hf⟩
  ·simp [-y0,-y5,-y4,y3,hres,hf]
  ·simp [-y0,-y5,-y4,y3,e8,hres,hf]
end Go.Proofs.YtbnlmgncbgaepaaGreat
