/- A part of the proof. -/
import Derived.Test.YtbhbeakhognieaaGreatWz
set_option linter.all false
set_option maxRecDepth 100000
set_option maxHeartbeats 8000000
open Option renaming bind_some → J
open List renaming range_succ → y0, map_map → y3, all_eq_true → y6, getElem_mem → y8, getElem?_eq_some_iff → y9, drop_eq_getElem_cons → yb, mem_cons → yg, mem_of_getElem? → yh, drop_eq_nil_of_le → yk, mem_cons_self → yl, mem_cons_of_mem → yo, getElem_of_mem → yq, mem_append → yx, getElem?_append_left → yG, mem_singleton → yO, getElem?_append_right → yQ, cons_append → yR, length_pos_iff → Y02
open Int renaming toNat_lt → y4, tmod_eq_emod_of_nonneg → yt, emod_nonneg → yC, emod_lt_of_pos → yD
open Bool renaming and_eq_true → y7, or_eq_true → yT
open Nat renaming le_refl → yj, mul_le_mul_right → yZ
namespace Go.Proofs.YtbhbeakhognieaaGreat
open Go
def PL:MA:=⟨(oR [oJ 4 0] (.seq (oR [oM 6 0,oK 7 6,oF 8 1 7,oL 9 8,oH 10 9,oC 11 .eql 10 0] (oD 11 (oR [oJ 4 0] .ret) .skip)) (oR [oM 12 0,oK 13 12,oF 14 1 13,oL 15 14,oS 16 (.iaddr 1 (.t 15) (.c (.int .i64 0))),oL 17 16,oS 18 (.conv (.some .i64) (.t 17)),oM 19 1,oB 20 .rem 18 19,oM 5 20] (oR [oM 21 0,oM 22 0,oK 23 22,oF 24 1 23,oL 25 24,oS 26 (.slc false 1 (.t 25) (.some (.c (.int .i64 1))) .none .none),oK 27 21,oF 28 1 27,oW 28 26] (oR [oM 29 5,oM 4 29] .ret))))),[(.tmp 4)],2,[3000000]⟩
def gL:C:=.seq (oR [oM 12 6,oC 13 .gtr 12 0] (oD 13 .skip (.exit 0))) (.seq (.block 1 (.reg [oM 16 5,oM 17 0,oS 18 (.callr .any 89 [(.t 17),(.c (.int .i64 3))]),oS 19 (.bin .add false (.c (.int .i64 97)) (.t 18)),oS 20 (.conv (.some .i32) (.t 19)),oS 21 (.rstr (.t 20)),oB 22 .add 16 21,oM 5 22])) (.reg [oM 14 6,oC 15 .sub 14 1,oM 6 15]))
def mN:MA:=⟨(oR [oS 4 (.mv (.c (.str (ByteArray.mk #[]))))] (oR [oS 5 (.mv (.c (.str (ByteArray.mk #[]))))] (.seq (oR [oM 7 0,oM 8 1,oS 9 (.mm false (.t 8) (.c (.int .i64 3))),oC 10 .add 9 1,oS 11 (.callr .any 89 [(.t 7),(.t 10)]),oM 6 11] (.block 0 (.loop gL))) (oR [oM 23 5,oM 4 23] .ret)))),[(.tmp 4)],2,[3000000,23,37]⟩
def iS:MA:=⟨(oR [oZ 2 false] (oR [oM 3 0,oK 4 3,oF 5 2 4,oL 6 5,oM 7 6,oMg 8 0 7 true,oG 9 (.callr .any 89 [(.t 8),(.c (.int .i64 4))]) 7 true,oCi 10 .eql 9 3 7 true,oPa 11 7 10,oM 2 11] .ret)),[(.tmp 2)],1,[3000000,19]⟩
def pK:C:=.seq (oR [oM 204 10,oC 205 .gtr 204 0] (oD 205 .skip (.exit 5))) (.seq (.block 6 (oR [oM 208 0,oF 209 7 5,oL 210 209,oS 211 (.callr .any 56 [(.t 208),(.t 210)]),oY 11 zza,oV 8 11 211] (.reg [oS 212 (.load (.root 6) true 8 (.t 6)),oS 213 (.load (.root 11) true 8 (.t 11)),oM 214 0,oF 215 8 5,oLr 216 5 1 215,oS 217 (.callr (.root 0) 56 [(.t 214),(.t 216)]),oS 218 (.call .any 94 [(.t 212),(.t 213),(.t 217)]),oN (.store (.root 6) true 8 (.t 6) (.t 218))]))) (.reg [oM 206 10,oC 207 .sub 206 1,oM 10 207]))
def aK:C:=.seq (oR [oM 183 9,oC 184 .gtr 183 0] (oD 184 .skip (.exit 3))) (.seq (.block 4 (.reg [oF 187 6 6,oLr 188 6 1 187,oM 189 0,oF 190 8 5,oLr 191 5 1 190,oS 192 (.callr (.root 0) 56 [(.t 189),(.t 191)]),oS 193 (.bsl zza 1 [(0,(.t 192))]),oAp 194 41 8 120 188 193,oF 195 6 6,oN (.store (.root 6) false 1 (.t 195) (.t 194))])) (.reg [oM 185 9,oC 186 .sub 185 1,oM 9 186]))
def WG:C:=.seq (oR [oM 87 7,oF 88 6 5,oL 89 88,oH 90 89,oB 91 .lss 87 90] (oD 91 .skip (.exit 1))) (.seq (.block 2 (oR [oF 94 6 5,oL 95 94,oM 96 7,oI 97 13 95 96,oF 98 4 97,oL 99 98,oM 100 99,oMg 101 0 100 true,oG 102 (.callr .any 89 [(.t 101),(.c (.int .i64 3))]) 100 true,oCi 103 .eql 102 0 100 true,oPa 104 100 103] (oD 104 (.reg [oF 105 6 6,oLr 106 6 1 105,oF 107 6 5,oLr 108 5 1 107,oM 109 7,oI 110 13 108 109,oF 111 5 110,oA 112 8 111,oS 113 (.bsl zza 1 [(0,(.t 112))]),oAp 114 41 8 120 106 113,oF 115 6 6,oN (.store (.root 6) false 1 (.t 115) (.t 114))]) (.reg [oF 116 6 6,oLr 117 6 1 116,oM 118 0,oF 119 6 5,oLr 120 5 1 119,oM 121 7,oI 122 13 120 121,oF 123 2 122,oL 124 123,oS 125 (.callr (.root 0) 56 [(.t 118),(.t 124)]),oS 126 (.bsl zza 1 [(0,(.t 125))]),oAp 127 41 8 120 117 126,oF 128 6 6,oN (.store (.root 6) false 1 (.t 128) (.t 127))])))) (.reg [oM 92 7,oC 93 .add 92 1,oM 7 93]))
def mB:MA:=⟨(oR [oY 4 zza] (oR [oM 12 0,oK 13 12,oF 14 0 13,oF 15 0 14,oL 16 15,oM 17 1,oI 18 10 16 17,oA 19 10 18,oY 5 zze,oV 10 5 19] (oR [oF 20 0 5,oL 21 20,oS 22 (.build zza [(0,(1,(.t 21)))]),oY 6 zza,oV 8 6 22] (.seq (oR [oF 23 0 5,oL 24 23] (.block 0 (oR [oC 35 .eql 24 1,oM 34 35] (oD 34 (.reg [oM 36 0,oS 37 (.callr .any 89 [(.t 36),(.c (.int .i64 2))]),oC 38 .eql 37 1,oF 39 1 6,oW 39 38]) (oR [oC 41 .eql 24 2,oM 40 41] (oD 40 (.reg [oF 42 2 5,oLr 43 5 1 42,oM 44 0,oS 45 (.callr (.root 0) 89 [(.t 44),(.c (.int .i64 256))]),oF 46 3 5,oLr 47 5 1 46,oF 48 2 5,oLr 49 5 1 48,oB 50 .sub 47 49,oC 51 .add 50 1,oB 52 .rem 45 51,oB 53 .add 43 52,oF 54 2 6,oN (.store (.root 6) false 1 (.t 54) (.t 53))]) (oR [oC 56 .eql 24 3,oM 55 56] (oD 55 (.reg [oM 57 0,oF 58 4 5,oL 59 58,oS 60 (.callr .any 90 [(.t 57),(.t 59)]),oF 61 3 6,oW 61 60]) (oR [oC 63 .eql 24 4,oM 62 63] (oD 62 (oR [oF 64 5 5,oLr 65 5 1 64,oM 66 0,oF 67 5 5,oLr 68 5 1 67,oH 69 68,oS 70 (.callr (.root 0) 89 [(.t 66),(.t 69)]),oI 71 2 65 70,oF 72 0 71,oL 73 72,oF 74 4 6,oN (.store (.root 6) false 1 (.t 74) (.t 73))] (oR [oF 75 9 5,oL 76 75,oM 77 76,oMg 78 0 77 true,oG 79 (.callr .any 91 [(.t 78)]) 77 true,oPa 80 77 79] (oD 80 (.reg [oM 81 0,oA 82 10 5,oS 83 (.callr .any 92 [(.t 81),(.t 82)]),oF 84 4 6,oW 84 83]) .skip))) (oR [oC 86 .eql 24 5,oM 85 86] (oD 85 (.seq (oR [oJ 7 0] (.block 1 (.loop WG))) (oR [oM 129 0,oS 130 (.callr .any 91 [(.t 129)])] (oD 130 (.reg [oM 131 0,oM 132 0,oA 133 10 5,oS 134 (.callr .any 92 [(.t 132),(.t 133)]),oS 135 (.callr .any 93 [(.t 131),(.t 134)]),oS 136 (.bsl zzc 1 [(0,(.t 135))]),oF 137 7 6,oW 137 136]) .skip))) (oR [oC 139 .eql 24 6,oM 138 139] (oD 138 (.seq (oR [oF 140 9 5,oL 141 140,oM 142 141,oMg 143 0 142 true,oG 144 (.callr .any 91 [(.t 143)]) 142 true,oPa 145 142 144] (oD 145 (oR [oM 146 0,oA 147 10 5,oS 148 (.callr .any 92 [(.t 146),(.t 147)]),oF 149 4 6,oW 149 148] (oR [oM 150 0,oF 151 4 6,oL 152 151,oS 153 (.callr .any 93 [(.t 150),(.t 152)]),oS 154 (.bsl zzc 1 [(0,(.t 153))]),oF 155 7 6,oW 155 154] (oR [oA 156 8 6,oV 8 4 156] .ret))) .skip)) (oR [oF 157 6 5,oLr 158 5 1 157,oM 159 0,oF 160 6 5,oLr 161 5 1 160,oH 162 161,oS 163 (.callr (.root 0) 89 [(.t 159),(.t 162)]),oI 164 13 158 163,oS 165 (.load .imm true 13 (.t 164)),oY 8 zzh,oN (.store (.root 8) true 13 (.t 8) (.t 165))] (oR [oF 166 0 8,oL 167 166,oF 168 4 6,oW 168 167] (.reg [oM 169 0,oF 170 2 8,oL 171 170,oS 172 (.callr .any 56 [(.t 169),(.t 171)]),oS 173 (.bsl zza 1 [(0,(.t 172))]),oF 174 6 6,oW 174 173])))) (oR [oC 176 .eql 24 7,oM 175 176] (oD 175 (oR [oM 177 0,oF 178 4 5,oL 179 178,oS 180 (.mm false (.t 179) (.c (.int .i64 3))),oC 181 .add 180 1,oS 182 (.callr .any 89 [(.t 177),(.t 181)]),oM 9 182] (.block 3 (.loop aK))) (oR [oC 197 .eql 24 8,oM 196 197] (oD 196 (oR [oM 198 0,oF 199 4 5,oL 200 199,oS 201 (.mm false (.t 200) (.c (.int .i64 3))),oC 202 .add 201 1,oS 203 (.callr .any 89 [(.t 198),(.t 202)]),oM 10 203] (.block 5 (.loop pK))) (oR [oM 25 0,oS 26 (.callr .any 89 [(.t 25),(.c (.int .i64 2))]),oC 27 .eql 26 1] (oD 27 (.reg [oM 28 0,oF 29 8 5,oL 30 29,oS 31 (.callr .any 56 [(.t 28),(.t 30)]),oS 32 (.bsl zza 1 [(0,(.t 31))]),oF 33 6 6,oW 33 32]) .skip)))))))))))))))))))) (oR [oA 219 8 6,oV 8 4 219] .ret))))),[(.cell 4 true 8)],2,[3000000,75,91,121,141,159,167,205,251,261,269,271,289,297,307,327,345,365,385,407,423,435,53,63]⟩
def dQ:MA:=⟨(oR [oQ 3 1 0,oY 6 zza] (oR [oS 8 (.load (.root 3) true 1 (.t 3)),oM 9 2,oM 10 2,oH 11 10,oS 12 (.mm false (.c (.int .i64 60)) (.t 11)),oS 13 (.slc false 1 (.t 9) .none (.some (.t 12)) .none),oS 14 (.build zzj [(0,(1,(.t 8))),(1,(1,(.t 13)))]),oQ 15 3 14,oM 7 15] (oR [oM 16 7,oM 17 1,oS 18 (.callr .any 56 [(.t 16),(.t 17)]),oV 8 6 18] .ret))),[(.cell 6 true 8)],3,[37]⟩
theorem ok_mk_next:cA Tryz.prog 89 PL:=okF Tryz.func89
theorem ok_mk_text:cA Tryz.prog 90 mN:=okF Tryz.func90
theorem ok_mk_odd:cA Tryz.prog 91 iS:=okF Tryz.func91
theorem D7:cA Tryz.prog 56 mB:=okF Tryz.func56
theorem ok_mk_Make:cA Tryz.prog 26 dQ:=okF Tryz.func26
noncomputable def NU:JB:=fun f args S=>dF jA tA f args S
theorem rdX_ok {O:PH} (f:Nat) (args:List AV) (S:Option AV) (r:RV) (h:NU f args S=some r):DD Tryz.prog O f args S r :=
 L6 mixedT allT_ok bldExt_ok h
def BU:Nat->Option MA
 | 89=>some PL
 | 90=>some mN
 | 91=>some iS
 | 56=>some mB
 | 26=>some dQ
 | 5=>some OB
 | _=>none
theorem rdT_ok (f:Nat) (c:MA) (h:BU f=some c):cA Tryz.prog f c:=by
 unfold BU at h;split at h
 ·injection h with h; subst h; exact ok_mk_next
 ·injection h with h; subst h; exact ok_mk_text
 ·injection h with h; subst h; exact ok_mk_odd
 ·injection h with h; subst h; exact D7
 ·injection h with h; subst h; exact ok_mk_Make
 ·injection h with h; subst h; exact jJ
 ·cases h
theorem WW (f:Nat) (c:MA) (h:BU f=some c):c.code.det=true:=by
 unfold BU at h;split at h <;> first | (cases h; done) | (injection h with h; subst h; kernel_rfl)
abbrev evR (f:Nat) (args:List AV) (v:AV):Prop:=dF BU NU f args none=some (v,none)
theorem D9 {f:Nat} {args:List AV} {v:AV} (h:gA f args v) (hT:BU f=none:=by rfl):evR f args v:=evC_ext hT h
theorem eX {b:C} {r:RV} (n:Nat) (I:Nat->aA->Prop) (E:Ex->aA->Prop)
  (step:∀ i,i<=n->∀ s k,I i s->(i<n->∀ s',I (i + 1) s'->WI BU NU b s' k=some r)->(∀ e s',E e s'->k e s'=some r)->WI BU NU b s k=some r)
  (s:aA) (k:Ex->aA->Option RV) (h:I 0 s) (hk:∀ e s',E e s'->k e s'=some r):WI BU NU b s k=some r:=by
 have:∀ m i,i + m=n->∀ s,I i s->WI BU NU b s k=some r:=by
  intro m
  induction m with
  | zero=>intro i hi s h; exact step i (by omega) s k h (fun fa=>absurd fa (by omega)) hk
  | succ m ih=>intro i hi s h; exact step i (by omega) s k h (fun _ s' h'=>ih (i + 1) (by omega) s' h') hk
 exact this n 0 (by omega) s h
def u8C (x:Int):List AV:=[.int .u8 x]
def UB (b:Bool) (S:List pA) (c:Bool) (cs:List Int):List AV:=[.sl b (S.map eA),.sl c (cs.map u8C),.bool false]
def nxt:List Int->Int->Int × List Int
 | [],_=>(0,[])
 | c :: r,n=>(c % n,r)
def GL (cs:List Int):Prop:=∀ x∈cs,u8 x
theorem eL {cs:List Int} {n:Int} (h:GL cs) (hn:0<n):0<=(nxt cs n).1/\(nxt cs n).1<n/\GL (nxt cs n).2/\(nxt cs n).2.length<=cs.length/\(cs≠[]->(nxt cs n).2.length<cs.length)/\(cs=[]->nxt cs n=(0,[])):=by
 cases cs with
 | nil=>exact ⟨Int.le_refl _,hn,h,yj _,fun h=>absurd rfl h,fun _=>rfl⟩
 | cons c r=>exact ⟨yC _ (by omega),yD _ hn,fun x hx=>h x (yo _ hx),by simp [nxt],by simp [nxt],fun h=>by cases h⟩
theorem qO {T:Nat->Option MA} {ext:JB} {f:Nat} {args cs:List AV} (hD:∀ f c,T f=some c->c.code.det=true) (c:MA) (hT:T f=some c) (hl:args.length=c.np) {F:Ex->aA->Prop} {P:RV->Prop} (h:∀ (k:Ex->aA->Option RV) (r:RV),(∀ e s',F e s'->k e s'=some r)->c.code.run (dF T ext) (RJ T ext) (aA.initR args cs) k=some r) (hF:∀ e s',F e s'->∃ r,iG c cs.length e s'=some r/\P r) (hm:gJ args=false:=by rfl):∃ r,P r/\dF T ext f (.undef :: .undef :: args) (some (.agg cs))=some r:=by
 obtain ⟨e,s',h1,h2⟩:=d3 hD (hD f c hT) h;obtain ⟨r,h3,h4⟩:=hF e s' h1;exact ⟨r,h4,mD c hT hl (h2 _ _ h3) hm⟩
theorem JH (b:Bool) (S:List pA) (c:Bool) (cs:List Int) (h:GL cs) (n:Int) (hn:0<n):dF BU NU 89 [.undef,.undef,.ptr 0 0 0,.int .i64 n] (some (.agg (UB b S c cs)))=some (.int .i64 (nxt cs n).1,some (.agg (UB b S c (nxt cs n).2))):=by
 cases cs with
 | nil =>
  refine mD PL rfl rfl ?_;simp [PL,-J,-y4,-y3,y0,JA,IB,EB,GC,rB,iG,dE,UB,nxt]
 | cons x r =>
  have hx:=h x yl;have h1:IntKind.i64.wrap x=x:=IntWalk.i64_in _ (by have:=hx.1; have:=hx.2; omega);have h2:x.tmod n=x % n:=yt hx.1;have h3:IntKind.i64.wrap (x % n)=x % n:=IntWalk.i64_in _ (by
   have:=hx.2;have a1:=yC x (show n≠0 by omega);have a2:x % n<=x:=by
    by_cases q:x<n
    ·rw [Int.emod_eq_of_lt hx.1 q]; exact Int.le_refl _
    ·have:=yD x hn;omega
   omega)
  have ma:¬ n=0:=by omega
  have hl:¬ (r.length:Int) + 1=0:=by omega
  refine mD PL rfl rfl ?_;simp [PL,-J,-y4,-y3,y0,JA,IB,EB,GC,rB,iG,dE,UB,nxt,u8C,h1,h2,h3,ma,hl]
theorem U4 (b:Bool) (S:List pA) (c:Bool) (cs:List Int):dF BU NU 91 [.undef,.undef,.ptr 0 0 0] (some (.agg (UB b S c cs)))=some (.bool false,some (.agg (UB b S c cs))):=by
 refine mD iS rfl rfl ?_;simp [iS,-J,-y4,-y3,y0,JA,IB,EB,GC,rB,iG,dE,UB]
theorem wrap_sub1 {n:Nat} (h:n<1000):IntKind.i64.wrap ((n + 1:Nat) - 1:Int)=(n:Int):=by
 rw [IntWalk.i64_in _ (by omega)]; omega
def tP (b:Bool) (S:List pA) (c:Bool) (cs:List Int):List wA:=[⟨.sl b (S.map eA),rB (.sl b (S.map eA))⟩,⟨.sl c (cs.map u8C),rB (.sl c (cs.map u8C))⟩,⟨.bool false,.no⟩]
theorem mtext_lp (b:Bool) (S:List pA) (c:Bool) {rv:RV}:∀ (m:Nat),m<=3->∀ (cs:List Int),GL cs->∀ (p:ByteArray),p.size + m<=10->∀ (s:aA) (k:Ex->aA->Option RV),(s.env 0).v=.ptr 0 0 0->(s.env 5).v=.str p->(s.env 6).v=.int .i64 m->s.mem 0 0=some (tP b S c cs) →
  (∀ s' ba q,GL ba->ba.length<=cs.length->q.size=p.size + m->(s'.env 0).v=.ptr 0 0 0->(s'.env 5).v=.str q->s'.mem 0 0=some (tP b S c ba)->k (.exit 0) s'=some rv)->WI BU NU gL s k=some rv:=by
 intro m
 induction m with
 | zero =>
  intro _ cs hc p hp s k e0 e5 e6 m0 hk;refine iA ?_;simp [gL,-J,-y4,-y3,y0,e6];exact hk _ cs p hc (yj _) rfl (by simp [e0]) (by simp [e5]) (by simp [m0])
 | succ m ih =>
  intro hm cs hc p hp s k e0 e5 e6 m0 hk;have hn:=JH b S c cs hc 3 (by omega);obtain ⟨g0,g1,g2,g3,_⟩:=eL hc (show (0:Int)<3 by omega);generalize nxt cs 3=y at *
  obtain ⟨z,ba⟩:=y;simp only at hn g0 g1 g2 g3;refine iA ?_;simp only [tP] at m0;simp only [UB] at hn;have hw:=wrap_sub1 (n:=m) (by omega);have tc:((m + 1:Nat):Int) > 0:=by omega
  obtain ⟨q,hq,hE⟩:∃ q:ByteArray,q.size=1/\Utf8.encode (97 + z)=q:=by
   rcases (show z=0\/z=1\/z=2 by omega) with rfl | rfl | rfl
   ·exact ⟨_,by rfl,rfl⟩
   ·exact ⟨_,by rfl,rfl⟩
   ·exact ⟨_,by rfl,rfl⟩
  have w1:IntKind.i64.wrap (97 + z)=97 + z:=IntWalk.i64_in _ (by omega);have w2:IntKind.i32.wrap (97 + z)=97 + z:=by
   rcases (show z=0\/z=1\/z=2 by omega) with rfl | rfl | rfl <;> rfl
  have tb:(p++q).size=p.size + 1:=by rw [ByteArray.size_append,hq]
  have bc:p.size + q.size<=9223372036854775807:=by omega
  have jl:IntKind.i64.wrap (m:Int)=(m:Int):=IntWalk.i64_in _ (by omega);have hw3:(0:Int)<(m:Int) + 1:=by omega
  simp [gL,-J,-y4,-y3,y0,e0,e5,e6,m0,hn,JA,IB,EB,GC,w1,w2,hE,bc,tb,hw,jl,hw3,tc];refine ih (by omega) ba g2 (p++q) (by omega) _ _ ?_ ?_ ?_ ?_ fun s' cs'' q' a1 a2 a3 a4 a5 a6=>hk s' cs'' q' a1 (by omega) (by omega) a4 a5 a6
  ·simp [e0]
  ·simp
  ·simp
  ·simp [tP,rB]
theorem mtext_ev (b:Bool) (S:List pA) (c:Bool) (cs:List Int) (h:GL cs) (n:Int) (hn:0<=n):∃ (q:ByteArray) (ba:List Int),dF BU NU 90 [.undef,.undef,.ptr 0 0 0,.int .i64 n] (some (.agg (UB b S c cs)))=some (.str q,some (.agg (UB b S c ba)))/\GL ba/\ba.length<=cs.length/\(q.size:Int)<=n/\q.size<=3:=by
 have bw:0<min n 3 + 1:=by omega
 have hx:=JH b S c cs h (min n 3 + 1) bw;obtain ⟨g0,g1,g2,g3,_⟩:=eL h bw;have w1:IntKind.i64.wrap (min n 3 + 1)=min n 3 + 1:=IntWalk.i64_in _ (by omega);generalize nxt cs (min n 3 + 1)=y at *
 obtain ⟨z,zi⟩:=y;simp only at hx g0 g1 g2 g3;obtain ⟨m,rfl⟩:∃ m:Nat,z=m:=⟨z.toNat,by omega⟩;have H:=qO (ext:=NU) WW mN (f:=90) rfl rfl (args:=[.ptr 0 0 0,.int .i64 n]) (cs:=UB b S c cs) (F:=fun e s'=>e=.ret/\∃ (q:ByteArray) (ba:List Int),(s'.env 4).v=.str q/\s'.mem 0 0=some (tP b S c ba)/\GL ba/\ba.length<=cs.length/\q.size=m)
  (P:=fun r=>∃ (q:ByteArray) (ba:List Int),r=(.str q,some (.agg (UB b S c ba)))/\GL ba/\ba.length<=cs.length/\q.size=m) (fun k r hk=>by
   simp only [UB] at hx ⊢;simp [mN,-J,-y4,-y3,y0,hx,w1,JA,IB,EB,GC];refine mtext_lp b S c m (by omega) zi g2 ⟨#[]⟩ (by show 0 + m<=10; omega) _ _ ?_ ?_ ?_ ?_ fun s' ba q a1 a2 a3 a4 a5 a6=>?_
   ·simp
   ·simp
   ·simp
   ·simp [tP,rB]
   ·simp [-J,-y4,-y3,y0,a5];exact hk _ _ ⟨rfl,q,ba,by simp,by simp [a6],a1,by omega,by rw [a3]; show 0 + m=m; omega⟩) (fun e s' h=>by
   obtain ⟨rfl,q,ba,e4,m0,h1,h2,h3⟩:=h;simp only [tP] at m0;exact ⟨(.str q,some (.agg (UB b S c ba))),by simp [mN,iG,dE,-J,-y4,-y3,y0,e4,m0,UB],q,ba,rfl,h1,h2,h3⟩)
 obtain ⟨r,⟨q,ba,rfl,h1,h2,h3⟩,hr⟩:=H;exact ⟨q,ba,hr,h1,h2,by omega,by omega⟩
def MD (k:Vl):List Vl->Nat
 | []=>0
 | a :: r=>if IJ a k<0 then MD k r + 1 else 0
theorem cY (k:Vl):∀ l:List Vl,MD k l<=l.length
 | []=>yj _
 | a :: r=>by
  rw [MD];split
  ·have:=cY k r;simp; omega
  ·simp
def K9 (k:Vl) (l:List Vl):Bool:=match l[MD k l]? with
 | some a=>decide (IJ a k=0)
 | none=>false
def WP (p:Nat) (k:Vl) (l:List Vl):List Vl:=l.take p++k :: l.drop p
def putV (v k u:Vl):Vl:=if K9 k v.keys then v else .mk v.kind v.b v.i v.s v.id false (WP (MD k v.keys) k v.keys) false (WP (MD k v.keys) u v.items) v.rn v.rest
def EJ:List wA:=[⟨.int .i64 0,.no⟩,⟨.bool false,.no⟩,⟨.int .i64 0,.no⟩,⟨.str ⟨#[]⟩,.no⟩,⟨.int .i64 0,.no⟩,⟨.sl true [],.ex⟩,⟨.sl true [],.ex⟩,⟨.sl true [],.ex⟩]
theorem mput_ev (v k u:Vl) (hl:v.keys.length<=1000) (wd:v.items.length=v.keys.length) (hk:zH k.i) (fe:∀ x∈v.keys,zH x.i):gA 94 [.agg (fA v),.agg (fA k),.agg (fA u)] (.agg (fA (putV v k u))):=by
 refine rA (c:=BM) rfl rfl ?_;rw [qA v,qA k,qA u];simp [BM,-J,-y4,-y3,y0];refine RA v.keys.length (fun i s=>(s.env 3).v=.ptr 3 1 0/\s.mem 3 1=some (OA v)/\(s.env 4).v=.ptr 4 1 0/\s.mem 4 1=some (OA k)/\(s.env 5).v=.ptr 5 1 0/\s.mem 5 1=some (OA u)/\(s.env 6).v=.ptr 6 1 0/\s.mem 6 1=some EJ/\(s.env 7).v=.int .i64 i/\MD k (v.keys.drop i) + i=MD k v.keys)
  (fun e s=>e=.exit 0/\(s.env 3).v=.ptr 3 1 0/\s.mem 3 1=some (OA v)/\(s.env 4).v=.ptr 4 1 0/\s.mem 4 1=some (OA k)/\(s.env 5).v=.ptr 5 1 0/\s.mem 5 1=some (OA u)/\(s.env 6).v=.ptr 6 1 0/\s.mem 6 1=some EJ/\(s.env 7).v=.int .i64 (MD k v.keys)) (fun i hi s kk h ih jb=>?_) _ _ ?_ (fun e s h=>?_)
 ·obtain ⟨e3,m3,e4,m4,e5,m5,e6,m6,e7,hp⟩:=h;refine iA ?_;simp only [OA] at m3 m4;by_cases fa:i<v.keys.length
  ·have ga:(i:Int)<v.keys.length:=by omega
   have g1:(v.keys.map fA)[i]?=some (fA v.keys[i]):=by simp [fa]
   have hw:=WB (i:=i);have hc:=JY v.keys[i] k (fe _ (y8 fa)) hk;rw [yb fa,MD] at hp;generalize v.keys[i]=x at *
   rw [qA x] at g1;simp only [gA,qA] at hc;by_cases hx:IJ x k<0
   ·rw [if_pos hx] at hp;simp [tJ,-J,-y4,-y3,y0,e3,m3,e4,m4,e7,ga,g1,hc,hx,hw];refine ih fa _ ⟨?_,?_,?_,?_,?_,?_,?_,?_,?_,by omega⟩ <;> simp [e3,m3,e4,m4,e5,m5,e6,m6,OA]
   ·rw [if_neg hx] at hp;simp [tJ,-J,-y4,-y3,y0,e3,m3,e4,m4,e7,ga,g1,hc,hx];refine jb _ _ ⟨rfl,?_,?_,?_,?_,?_,?_,?_,?_,?_⟩ <;> simp [e3,m3,e4,m4,e5,m5,e6,m6,e7,OA]
    omega
  ·have ga:¬ (i:Int)<v.keys.length:=by omega
   rw [yk (by omega),MD] at hp;simp [tJ,-J,-y4,-y3,y0,e3,m3,e7,ga];refine jb _ _ ⟨rfl,?_,?_,?_,?_,?_,?_,?_,?_,?_⟩ <;> simp [e3,m3,e4,m4,e5,m5,e6,m6,e7,OA]
   omega
 ·refine ⟨?_,?_,?_,?_,?_,?_,?_,?_,?_,?_⟩ <;> first | (simp [OA,EJ]; done) | (simp [OA,EJ,rB]; done)
 ·obtain ⟨rfl,e3,m3,e4,m4,e5,m5,e6,m6,e7⟩:=h;have hple:=cY k v.keys;have hpi:MD k v.keys<=v.items.length:=by omega
  have q1:iB 8 ((v.keys.map fA).take (MD k v.keys))=true:=by rw [<- List.map_take]; exact mK _
  have q2:iB 8 ((v.keys.map fA).drop (MD k v.keys))=true:=by rw [<- List.map_drop]; exact mK _
  have q3:iB 8 ((v.items.map fA).take (MD k v.keys))=true:=by rw [<- List.map_take]; exact mK _
  have q4:iB 8 ((v.items.map fA).drop (MD k v.keys))=true:=by rw [<- List.map_drop]; exact mK _
  simp only [OA] at m3 m4 m5;simp only [EJ] at m6;have room:∀ n,n<=2000->ZA 120 n=true:=fun n h=>by rw [xA]; omega
  have r1:=room (MD k v.keys) (by omega);have r2:=room (MD k v.keys + 1) (by omega);have r3:=room (MD k v.keys + 1 + (v.keys.length - MD k v.keys)) (by omega);have r4:=room (MD k v.keys + 1 + (v.items.length - MD k v.keys)) (by omega);have l1:min (MD k v.keys) v.keys.length=MD k v.keys:=by omega
  have l2:min (MD k v.keys) v.items.length=MD k v.keys:=by omega
  unfold putV K9 WP;generalize MD k v.keys=p at *
  cases hg:v.keys[p]? with
  | none =>
   have fa:¬ p<v.keys.length:=by simpa using hg
   have ga:¬ (p:Int)<v.keys.length:=by omega
   have hpe:p=v.keys.length:=by omega
   simp [-J,-y4,-y3,y0,e3,m3,e4,m4,e5,m5,e6,m6,e7,ga,qA,hple,hpi,q1,q2,q3,q4,r1,r2,r3,r4,l1,l2,BA];simp [Vl.kind,Vl.b,Vl.i,Vl.s,Vl.id,Vl.kn,Vl.keys,Vl.xn,Vl.items,Vl.rn,Vl.rest,qA]
  | some x =>
   obtain ⟨fa,E5⟩:=y9.1 hg;have ga:(p:Int)<v.keys.length:=by omega
   have g1:(v.keys.map fA)[p]?=some (fA x):=by simp [hg]
   have hc:=JY x k (fe _ (by rw [<- E5]; exact y8 fa)) hk;rw [qA x] at g1;simp only [gA,qA] at hc;by_cases hx:IJ x k=0
   ·simp [-J,-y4,-y3,y0,e3,m3,e4,m4,e5,m5,e6,m6,e7,ga,g1,hc,hx,qA]
   ·simp [-J,-y4,-y3,y0,e3,m3,e4,m4,e5,m5,e6,m6,e7,ga,g1,hc,hx,qA,hple,hpi,q1,q2,q3,q4,r1,r2,r3,r4,l1,l2,BA];simp [Vl.kind,Vl.b,Vl.i,Vl.s,Vl.id,Vl.kn,Vl.keys,Vl.xn,Vl.items,Vl.rn,Vl.rest,qA]
theorem bl_tot:∀ x y:List UInt8,x≠y->Op.bytesLess x y=false->Op.bytesLess y x=true
 | [],[],h,_=>absurd rfl h
 | [],_ :: _,_,h=>by simp [Op.bytesLess] at h
 | _ :: _,[],_,_=>rfl
 | a :: x,b :: y,h,h'=>by
  simp only [Op.bytesLess,Bool.or_eq_false_iff,decide_eq_false_iff_not,Bool.and_eq_false_iff] at h';simp only [Op.bytesLess,yT,decide_eq_true_eq,y7];obtain ⟨h1,h2⟩:=h';by_cases e:a=b
  ·subst e;refine .inr ⟨by simp,bl_tot x y (fun q=>h (by rw [q])) ?_⟩;rcases h2 with h2 | h2
   ·simp at h2
   ·exact h2
  ·refine .inl ?_;have h3:¬ a.toNat<b.toNat:=fun q=>h1 (UInt8.lt_iff_toNat_lt.2 q)
   have h4:a.toNat≠b.toNat:=fun q=>e (UInt8.toNat_inj.1 q)
   exact UInt8.lt_iff_toNat_lt.2 (by omega)
theorem ba_ne {a b:ByteArray} (h:a≠b):a.toList≠b.toList:=fun q=>h (by
 rw [ByteArray.toList_eq,ByteArray.toList_eq] at q;exact ByteArray.ext (Array.ext' q))
theorem B0 {a b:Int} (h:¬ xM a b<0) (h0:xM a b≠0):xM b a<0:=by
 unfold xM at *
 split at h
 ·omega
 ·split at h0
  ·omega
  ·simp_all
theorem cmpS_flip {a b:ByteArray} (h:¬ GT a b<0) (h0:GT a b≠0):GT b a<0:=by
 unfold GT at *
 by_cases h1:a.size<b.size
 ·rw [if_pos h1] at h; exact absurd h (by decide)
 rw [if_neg h1] at h h0;by_cases h2:b.size<a.size
 ·rw [if_pos h2]; decide
 rw [if_neg h2] at h h0;rw [if_neg h2,if_neg h1];by_cases h3:a=b
 ·rw [if_pos h3] at h0; exact absurd rfl h0
 rw [if_neg h3] at h;rw [if_neg (fun q=>h3 q.symm)];by_cases h4:MQ a b=true
 ·rw [if_pos h4] at h; exact absurd h (by decide)
 have:MQ b a=true:=bl_tot _ _ (ba_ne h3) (by simpa [MQ] using h4);rw [if_pos this];decide
theorem vcmp_flip {a b:Vl} (h:¬ IJ a b<0) (h0:IJ a b≠0):IJ b a<0:=by
 unfold IJ at *
 by_cases hk:a.kind=b.kind
 case neg=>rw [if_pos hk] at h0; exact absurd rfl h0
 rw [if_neg (by simp [hk])] at h h0;rw [if_neg (by simp [hk])];rw [<- hk];by_cases h1:a.kind=1
 ·rw [if_pos h1] at h h0 ⊢;cases ha:a.b <;> cases hb:b.b <;> simp [ha,hb] at h h0 ⊢
 rw [if_neg h1] at h h0 ⊢;by_cases h2:a.kind=2
 ·rw [if_pos h2] at h h0 ⊢; exact B0 h h0
 rw [if_neg h2] at h h0 ⊢;by_cases h3:a.kind=3
 ·rw [if_pos h3] at h h0 ⊢; exact cmpS_flip h h0
 rw [if_neg h3] at h h0 ⊢;by_cases h4:a.kind=4
 ·rw [if_pos h4] at h h0 ⊢; exact B0 h h0
 rw [if_neg h4] at h0;exact absurd rfl h0
theorem T7 {p:Nat} {k x:Vl} {l:List Vl} (h:x∈WP p k l):x=k\/x∈l:=by
 unfold WP at h;rcases yx.1 h with h | h
 ·exact .inr (List.mem_of_mem_take h)
 ·rcases yg.1 h with h | h
  ·exact .inl h
  ·exact .inr (List.mem_of_mem_drop h)
theorem EX {p:Nat} {k:Vl} {l:List Vl} (h:p<=l.length):(WP p k l).length=l.length + 1:=by
 simp [WP]; omega
theorem asc_ins (k:Vl):∀ l:List Vl,BG l=true->K9 k l=false->BG (WP (MD k l) k l)=true
 | [],_,_=>rfl
 | a :: r,h,hn=>by
  unfold K9 at hn;rw [MD] at hn ⊢;by_cases hc:IJ a k<0
  ·rw [if_pos hc] at hn ⊢;have ih:=asc_ins k r (by
    cases r with
    | nil=>rfl
    | cons b q=>simp [BG] at h; exact h.2) (by unfold K9; simpa using hn)
   show BG (a :: WP (MD k r) k r)=true;cases r with
   | nil=>simp [WP,MD,BG,hc]
   | cons b q =>
    rw [MD] at ih ⊢;by_cases hb:IJ b k<0
    ·rw [if_pos hb] at ih ⊢;simp only [WP,List.take_succ_cons,List.drop_succ_cons,yR] at ih ⊢;simp [BG] at h;rw [BG,ih];simp [h.1]
    ·rw [if_neg hb] at ih ⊢;simp only [WP,List.take_zero,List.drop_zero,List.nil_append] at ih ⊢;rw [BG,ih];simp [hc]
  ·rw [if_neg hc] at hn ⊢;simp at hn;simp only [WP,List.take_zero,List.drop_zero,List.nil_append];rw [BG,h];simp [vcmp_flip hc hn]
section
section
variable {b:Bool} {S:List pA} {c:Bool} {cs:List Int} (hc:GL cs) {t:Int} (h0:0<=t) {x:pA} (g:S[t.toNat]?=some x)
include hc h0 g
theorem val1 (hk:x.kind=1):dF BU NU 56 [.undef,.undef,.ptr 0 0 0,.int .i64 t] (some (.agg (UB b S c cs)))=some (.agg (fA (.of 1 (decide ((nxt cs 2).1=1)) 0 ⟨#[]⟩ 0)),some (.agg (UB b S c (nxt cs 2).2))):=by
 have hx:=JH b S c cs hc 2 (by omega);generalize nxt cs 2=y at *
 obtain ⟨z,ba⟩:=y;have g1:(S.map eA)[t.toNat]?=some (eA x):=by simp [g]
 simp only [eA] at g1;simp only [UB] at hx ⊢;refine mD mB rfl rfl ?_;simp [mB,-J,-y4,-y3,y0,JA,IB,EB,GC,iG,dE,h0,g1,hk,hx,Vl.of,qA,Vl.kind,Vl.b,Vl.i,Vl.s,Vl.id,Vl.kn,Vl.keys,Vl.xn,Vl.items,Vl.rn,Vl.rest]
theorem val2 (hk:x.kind=2) (hr:-1000000<=x.low/\x.low<=x.high/\x.high<=1000000):dF BU NU 56 [.undef,.undef,.ptr 0 0 0,.int .i64 t] (some (.agg (UB b S c cs)))=some (.agg (fA (.of 2 false (x.low + (nxt cs 256).1 % (x.high - x.low + 1)) ⟨#[]⟩ 0)),some (.agg (UB b S c (nxt cs 256).2))):=by
 have hx:=JH b S c cs hc 256 (by omega);obtain ⟨z0,z1,_⟩:=eL hc (show (0:Int)<256 by omega);generalize nxt cs 256=y at *
 obtain ⟨z,ba⟩:=y;simp only at hx z0 z1;have g1:(S.map eA)[t.toNat]?=some (eA x):=by simp [g]
 simp only [eA] at g1;simp only [UB] at hx ⊢;have w1:IntKind.i64.wrap (x.high - x.low)=x.high - x.low:=IntWalk.i64_in _ (by omega);have w2:IntKind.i64.wrap (x.high - x.low + 1)=x.high - x.low + 1:=IntWalk.i64_in _ (by omega);have hn:¬ x.high - x.low + 1=0:=by omega
 have e1:z.tmod (x.high - x.low + 1)=z % (x.high - x.low + 1):=yt z0;have b1:=yC z hn;have b2:=yD z (show 0<x.high - x.low + 1 by omega);have w3:IntKind.i64.wrap (z % (x.high - x.low + 1))=z % (x.high - x.low + 1):=IntWalk.i64_in _ (by omega);have w4:IntKind.i64.wrap (x.low + z % (x.high - x.low + 1))=x.low + z % (x.high - x.low + 1):=IntWalk.i64_in _ (by omega);refine mD mB rfl rfl ?_;simp [mB,-J,-y4,-y3,y0,JA,IB,EB,GC,iG,dE,h0,g1,hk,hx,w1,w2,w3,w4,hn,e1,Vl.of,qA,Vl.kind,Vl.b,Vl.i,Vl.s,Vl.id,Vl.kn,Vl.keys,Vl.xn,Vl.items,Vl.rn,Vl.rest]
theorem val3 (hk:x.kind=3) (hm:0<=x.max):∃ (q:ByteArray) (ba:List Int),dF BU NU 56 [.undef,.undef,.ptr 0 0 0,.int .i64 t] (some (.agg (UB b S c cs)))=some (.agg (fA (.of 3 false 0 q 0)),some (.agg (UB b S c ba)))/\GL ba/\ba.length<=cs.length/\(q.size:Int)<=x.max/\q.size<=3:=by
 obtain ⟨q,ba,hx,h1,h2,h3,h4⟩:=mtext_ev b S c cs hc x.max hm;refine ⟨q,ba,?_,h1,h2,h3,h4⟩;have g1:(S.map eA)[t.toNat]?=some (eA x):=by simp [g]
 simp only [eA] at g1;simp only [UB] at hx ⊢;refine mD mB rfl rfl ?_;simp [mB,-J,-y4,-y3,y0,JA,IB,EB,GC,iG,dE,h0,g1,hk,hx,Vl.of,qA,Vl.kind,Vl.b,Vl.i,Vl.s,Vl.id,Vl.kn,Vl.keys,Vl.xn,Vl.items,Vl.rn,Vl.rest]
theorem val4 (hk:x.kind=4) (hs:x.syms≠[]):∃ (y:nQ) (ba:List Int),y∈x.syms/\dF BU NU 56 [.undef,.undef,.ptr 0 0 0,.int .i64 t] (some (.agg (UB b S c cs)))=some (.agg (fA (.of 4 false 0 ⟨#[]⟩ y.id)),some (.agg (UB b S c ba)))/\GL ba/\ba.length<=cs.length:=by
 have hl:0<x.syms.length:=Y02.2 hs;have um:(0:Int)<x.syms.length:=by omega
 have hx:=JH b S c cs hc x.syms.length um;obtain ⟨z0,z1,z2,z3,_⟩:=eL hc um;generalize nxt cs x.syms.length=w at *
 obtain ⟨z,ba⟩:=w;simp only at hx z0 z1 z2 z3;have ki:z.toNat<x.syms.length:=by omega
 refine ⟨x.syms[z.toNat],ba,y8 ki,?_,z2,z3⟩;have g1:(S.map eA)[t.toNat]?=some (eA x):=by simp [g]
 have g2:(x.syms.map WD)[z.toNat]?=some (WD x.syms[z.toNat]):=by simp [ki]
 generalize x.syms[z.toNat]=y at *
 have ho:=U4 b S c ba;simp only [eA] at g1;simp only [WD] at g2;simp only [UB] at hx ho ⊢;refine mD mB rfl rfl ?_;cases fb:x.opn <;> simp [mB,-J,-y4,-y3,y0,JA,IB,EB,GC,iG,dE,h0,g1,hk,hx,g2,z0,fb,ho,Vl.of,qA,Vl.kind,Vl.b,Vl.i,Vl.s,Vl.id,Vl.kn,Vl.keys,Vl.xn,Vl.items,Vl.rn,Vl.rest]
end
end
def C8 (b:Bool) (S:List pA) (c:Bool) (t:Int) (cs:List Int):Prop:=∃ (v:Vl) (ba:List Int),dF BU NU 56 [.undef,.undef,.ptr 0 0 0,.int .i64 t] (some (.agg (UB b S c cs)))=some (.agg (fA v),some (.agg (UB b S c ba)))/\GL ba/\ba.length<=cs.length/\QB S t v=true/\v.ok/\v.i64
def bI (k:Int) (d:Int) (nl:Bool) (items:List Vl) (a:An):List wA:=[⟨.int .i64 k,.no⟩,⟨.bool false,.no⟩,⟨.int .i64 0,.no⟩,⟨.str ⟨#[]⟩,.no⟩,⟨.int .i64 d,.no⟩,⟨.sl true [],.no⟩,⟨.sl nl (items.map fA),a⟩,⟨.sl true [],.no⟩]
def ZR (S:List pA) (ms:List zB) (items:List Vl):Prop:=∀ (j:Nat) (m:zB) (v:Vl),ms[j]?=some m->items[j]?=some v->QB S m.ty v=true/\v.ok/\v.i64
theorem ZR.snoc {S:List pA} {ms:List zB} {items:List Vl} {m:zB} {v:Vl} (h:ZR S ms items) (hm:ms[items.length]?=some m) (hv:QB S m.ty v=true/\v.ok/\v.i64):ZR S ms (items++[v]):=fun j m' v' h1 h2=>by
 by_cases hj:j<items.length
 ·rw [yG hj] at h2;exact h j m' v' h1 h2
 ·rw [yQ (by omega)] at h2;have:j=items.length:=by
   have:=(y9.1 h2).1;simp at this;omega
  subst this;rw [h1] at hm;injection hm with hm;subst hm;simp at h2;subst h2;exact hv
structure MkI (b:Bool) (S:List pA) (c:Bool) (cs:List Int) (x:pA) (i:Nat) (s:aA):Prop where
 e0:(s.env 0).v=.ptr 0 0 0
 e5:∃ n,(s.env 5).v=.ptr 5 n 0/\s.mem 5 n=some (sA x)
 e4:∃ n,(s.env 4).v=.ptr 4 n 0/\s.mem 4 n=some EJ
 e7:(s.env 7).v=.int .i64 i
 st:∃ n nl items a ba,(s.env 6).v=.ptr 6 n 0/\s.mem 6 n=some (bI 5 0 nl items a)/\s.mem 0 0=some (tP b S c ba)/\GL ba/\ba.length<=cs.length/\items.length=i/\ZR S x.mems items/\((nl=true/\a=.no/\items=[])\/nl=false/\(a=.own 114 41\/a=.own 127 41))
theorem mkrec_lp {rv:RV} (b:Bool) (S:List pA) (c:Bool) (cs:List Int) (x:pA) (rj:x.mems.length<=1000)
  (V:∀ m∈x.mems,∀ ba,GL ba->ba.length<=cs.length->C8 b S c m.ty ba) (hd:∀ m∈x.mems,m.has=true->QB S m.ty m.dflt=true/\m.dflt.ok/\m.dflt.i64)
  (s:aA) (h:MkI b S c cs x 0 s) (k:Ex->aA->Option RV) (hk:∀ s',MkI b S c cs x x.mems.length s'->k (.exit 1) s'=some rv):WI BU NU WG s k=some rv:=by
 refine eX x.mems.length (fun i s=>MkI b S c cs x i s) (fun e s=>e=.exit 1/\MkI b S c cs x x.mems.length s) (fun i hi s k h ih hk=>?_) _ _ h (fun e s h=>by obtain ⟨rfl,h⟩:=h; exact hk s h);have h':=h;obtain ⟨e0,⟨n5,e5,m5⟩,⟨n4,e4,m4⟩,e7,n6,nl,items,a,ba,e6,m6,m0,hc,fc,wd,hf,ha⟩:=h;refine iA ?_;simp only [sA] at m5;simp only [bI] at m6;simp only [tP] at m0;by_cases fa:i<x.mems.length
 ·have ga:(i:Int)<x.mems.length:=by omega
  have hg:x.mems[i]?=some x.mems[i]:=by simp [fa]
  have g1:(x.mems.map nA)[i]?=some (nA x.mems[i]):=by simp [fa]
  have la:=y8 fa;have hw:=WB (i:=i);generalize x.mems[i]=m at *
  simp only [nA] at g1;have room:ZA 120 (items.length + 1)=true:=by rw [xA]; omega
  have LF:ZA 120 1=true:=by rw [xA]; omega
  have ac:=mK items;cases hh:m.has with
  | false =>
   obtain ⟨v,et,hv,q1,q2,q3⟩:=V m la ba hc fc;simp only [UB,qA v] at hv;rcases ha with ⟨rfl,rfl,rfl⟩ | ⟨rfl,rfl | rfl⟩
   all_goals
    simp [WG,-J,-y4,-y3,y0,JA,IB,EB,GC,e0,e5,m5,e6,m6,m0,e7,ga,g1,hh,hv,hw,room,LF,ac,BA,An.strip];refine ih fa _ ⟨by simp [e0],⟨n5,by simp [e5],by simp [m5,sA]⟩,⟨n4,by simp [e4],by simp [m4,EJ,An.strip]⟩,by simp,n6,false,_++[v],.own 127 41,et,by simp [e6],by simp [bI,qA v,An.strip],by cases b <;> cases c <;> simp [tP,rB,An.strip],q1,by omega,by simp [wd],hf.snoc (by rw [wd]; exact hg) q3,.inr ⟨rfl,.inr rfl⟩⟩
  | true =>
   have hx:=JH b S c ba hc 3 (by omega);obtain ⟨z0,z1,z2,z3,_⟩:=eL hc (show (0:Int)<3 by omega);generalize nxt ba 3=w at *
   obtain ⟨z,zi⟩:=w;simp only at hx z0 z1 z2 z3;by_cases hz:z=0
   ·have ri:=hd m la hh;simp only [UB] at hx;rcases ha with ⟨rfl,rfl,rfl⟩ | ⟨rfl,rfl | rfl⟩
    all_goals
     simp [WG,-J,-y4,-y3,y0,JA,IB,EB,GC,e0,e5,m5,e6,m6,m0,e7,ga,g1,hh,hx,hz,hw,room,LF,ac,BA,An.strip];refine ih fa _ ⟨by simp [e0],⟨n5,by simp [e5],by simp [m5,sA]⟩,⟨n4,by simp [e4],by simp [m4,EJ,An.strip]⟩,by simp,n6,false,_++[m.dflt],.own 114 41,zi,by simp [e6],by simp [bI,qA m.dflt,An.strip],by cases b <;> cases c <;> simp [tP,rB,An.strip],z2,by omega,by simp [wd],hf.snoc (by rw [wd]; exact hg) ri,.inr ⟨rfl,.inl rfl⟩⟩
   ·obtain ⟨v,et,hv,q1,q2,q3⟩:=V m la zi z2 (by omega);simp only [UB,qA v] at hv;simp only [UB] at hx;rcases ha with ⟨rfl,rfl,rfl⟩ | ⟨rfl,rfl | rfl⟩
    all_goals
     simp [WG,-J,-y4,-y3,y0,JA,IB,EB,GC,e0,e5,m5,e6,m6,m0,e7,ga,g1,hh,hx,hz,hv,hw,room,LF,ac,BA,An.strip];refine ih fa _ ⟨by simp [e0],⟨n5,by simp [e5],by simp [m5,sA]⟩,⟨n4,by simp [e4],by simp [m4,EJ,An.strip]⟩,by simp,n6,false,_++[v],.own 127 41,et,by simp [e6],by simp [bI,qA v,An.strip],by cases b <;> cases c <;> simp [tP,rB,An.strip],q1,by omega,by simp [wd],hf.snoc (by rw [wd]; exact hg) q3,.inr ⟨rfl,.inr rfl⟩⟩
 ·have ga:¬ (i:Int)<x.mems.length:=by omega
  have gj:i=x.mems.length:=by omega
  subst gj;simp [WG,-J,-y4,-y3,y0,e5,m5,e7,ga];exact hk _ _ ⟨rfl,by simp [e0],⟨n5,by simp [e5],by simp [m5,sA]⟩,⟨n4,by simp [e4],by simp [m4]⟩,by simp [e7],n6,nl,items,a,ba,by simp [e6],by simp [m6,bI],by simp [m0,tP],hc,fc,wd,hf,ha⟩
section
def nG (k d:Int) (nl:Bool) (items:List Vl):Vl:=.mk k false 0 ⟨#[]⟩ d true [] nl items true []
section
variable {b:Bool} {S:List pA} {c:Bool} {cs:List Int} (hc:GL cs) {t:Int} (h0:0<=t) {x:pA} (g:S[t.toNat]?=some x)
include hc h0 g
theorem val5 (hk:x.kind=5) (rj:x.mems.length<=1000) (V:∀ m∈x.mems,∀ ba,GL ba->ba.length<=cs.length->C8 b S c m.ty ba) (hd:∀ m∈x.mems,m.has=true->QB S m.ty m.dflt=true/\m.dflt.ok/\m.dflt.i64) :
  ∃ (nl:Bool) (items:List Vl) (ba:List Int),dF BU NU 56 [.undef,.undef,.ptr 0 0 0,.int .i64 t] (some (.agg (UB b S c cs)))=some (.agg (fA (nG 5 0 nl items)),some (.agg (UB b S c ba)))/\GL ba/\ba.length<=cs.length/\items.length=x.mems.length/\ZR S x.mems items:=by
 have g1:(S.map eA)[t.toNat]?=some (eA x):=by simp [g]
 simp only [eA] at g1;have H:=qO (ext:=NU) WW mB (f:=56) rfl rfl (args:=[.ptr 0 0 0,.int .i64 t]) (cs:=UB b S c cs)
  (F:=fun e s'=>e=.ret/\∃ nl items ba n,(s'.env 4).v=.ptr 4 n 0/\s'.mem 4 n=some ((fA (nG 5 0 nl items)).map fun v=>⟨v,.no⟩)/\s'.mem 0 0=some (tP b S c ba)/\GL ba/\ba.length<=cs.length/\items.length=x.mems.length/\ZR S x.mems items)
  (P:=fun r=>∃ nl items ba,r=(.agg (fA (nG 5 0 nl items)),some (.agg (UB b S c ba)))/\GL ba/\ba.length<=cs.length/\items.length=x.mems.length/\ZR S x.mems items) (fun k r zc=>by
   simp only [UB];simp [mB,-J,-y4,-y3,y0,h0,g1,hk];refine mkrec_lp b S c cs x rj V hd _ ?_ _ fun s' h=>?_
   ·exact ⟨by simp,⟨2,by simp,by simp [sA,hk]⟩,⟨1,by simp,by simp [EJ,rB]⟩,by simp,3,true,[],.no,cs,by simp,by simp [bI],by simp [tP],hc,yj _,rfl,fun j m v _ h=>by simp at h,.inl ⟨rfl,rfl,rfl⟩⟩
   ·obtain ⟨e0,⟨n5,e5,m5⟩,⟨n4,e4,m4⟩,e7,n6,nl,items,a,ba,e6,m6,m0,ae,fc,wd,hf,ha⟩:=h;have ho:=U4 b S c ba;simp only [UB] at ho;simp only [EJ] at m4;simp only [bI] at m6;simp only [tP] at m0;simp [-J,-y4,-y3,y0,JA,IB,EB,GC,e0,e4,m4,e6,m6,m0,ho];exact zc _ _ ⟨rfl,nl,items,ba,n4,by simp [e4],by simp [nG,qA,Vl.kind,Vl.b,Vl.i,Vl.s,Vl.id,Vl.kn,Vl.keys,Vl.xn,Vl.items,Vl.rn,Vl.rest],by cases b <;> cases c <;> simp [tP,rB,An.strip],ae,fc,wd,hf⟩) (fun e s' h=>by
   obtain ⟨rfl,nl,items,ba,n,e4,m4,m0,h1,h2,h3,h4⟩:=h;simp only [tP] at m0;rw [qA] at m4;refine ⟨(.agg (fA (nG 5 0 nl items)),some (.agg (UB b S c ba))),?_,nl,items,ba,rfl,h1,h2,h3,h4⟩;simp [mB,iG,dE,-J,-y4,-y3,y0,e4,m4,m0,UB,qA (nG 5 0 nl items)])
 obtain ⟨r,⟨nl,items,ba,rfl,h1,h2,h3,h4⟩,hr⟩:=H;exact ⟨nl,items,ba,hr,h1,h2,h3,h4⟩
theorem val6 (hk:x.kind=6) (ma:x.mems≠[]) (V:∀ m∈x.mems,∀ ba,GL ba->ba.length<=cs.length->C8 b S c m.ty ba) :
  ∃ (m:zB) (u:Vl) (ba:List Int),m∈x.mems/\dF BU NU 56 [.undef,.undef,.ptr 0 0 0,.int .i64 t] (some (.agg (UB b S c cs)))=some (.agg (fA (nG 6 m.id false [u])),some (.agg (UB b S c ba)))/\GL ba/\ba.length<=cs.length/\QB S m.ty u=true/\u.ok/\u.i64:=by
 have hl:0<x.mems.length:=Y02.2 ma;have um:(0:Int)<x.mems.length:=by omega
 have ho:=U4 b S c cs;have hx:=JH b S c cs hc x.mems.length um;obtain ⟨z0,z1,z2,z3,_⟩:=eL hc um;generalize nxt cs x.mems.length=w at *
 obtain ⟨z,zi⟩:=w;simp only at hx z0 z1 z2 z3;have ki:z.toNat<x.mems.length:=by omega
 have hm:=y8 ki;have g1:(S.map eA)[t.toNat]?=some (eA x):=by simp [g]
 have g2:(x.mems.map nA)[z.toNat]?=some (nA x.mems[z.toNat]):=by simp [ki]
 generalize x.mems[z.toNat]=m at *
 obtain ⟨u,et,hu,q1,q2,q3⟩:=V m hm zi z2 z3;refine ⟨m,u,et,hm,?_,q1,by omega,q3⟩;simp only [eA] at g1;simp only [nA] at g2;simp only [UB,qA u] at hx ho hu ⊢;have ac:=mK [u];refine mD mB rfl rfl ?_;cases fb:x.opn <;> simp [mB,-J,-y4,-y3,y0,JA,IB,EB,GC,iG,dE,h0,g1,hk,hx,g2,z0,fb,ho,hu,nG,qA,Vl.kind,Vl.b,Vl.i,Vl.s,Vl.id,Vl.kn,Vl.keys,Vl.xn,Vl.items,Vl.rn,Vl.rest]
theorem val9 (hk:∀ n,1<=n->n<=8->¬ x.kind=n) (V:∀ ba,GL ba->ba.length<cs.length->C8 b S c x.elem ba) :
  ∃ (nl:Bool) (items:List Vl) (ba:List Int),dF BU NU 56 [.undef,.undef,.ptr 0 0 0,.int .i64 t] (some (.agg (UB b S c cs)))=some (.agg (fA (nG x.kind 0 nl items)),some (.agg (UB b S c ba)))/\GL ba/\ba.length<=cs.length/\items.length<=1/\∀ u∈items,QB S x.elem u=true/\u.ok/\u.i64:=by
 have hx:=JH b S c cs hc 2 (by omega);obtain ⟨z0,z1,z2,z3,z4,z5⟩:=eL hc (show (0:Int)<2 by omega);have k1:=hk 1 (by omega) (by omega);have k2:=hk 2 (by omega) (by omega);have k3:=hk 3 (by omega) (by omega);have k4:=hk 4 (by omega) (by omega);have k5:=hk 5 (by omega) (by omega);have k6:=hk 6 (by omega) (by omega);have k7:=hk 7 (by omega) (by omega);have k8:=hk 8 (by omega) (by omega);have g1:(S.map eA)[t.toNat]?=some (eA x):=by simp [g]
 simp only [eA] at g1;by_cases hz:(nxt cs 2).1=1
 ·have ma:cs≠[]:=fun q=>by rw [z5 q] at hz; cases hz
  obtain ⟨u,et,hu,q1,q2,q3⟩:=V _ z2 (z4 ma);generalize nxt cs 2=w at *
  obtain ⟨z,zi⟩:=w;simp only at hx hz hu q2 z3;subst hz;refine ⟨false,[u],et,?_,q1,by omega,by simp,fun v hv=>by rw [yO.1 hv]; exact q3⟩;simp only [UB,qA u] at hx hu ⊢;refine mD mB rfl rfl ?_;simp [mB,-J,-y4,-y3,y0,JA,IB,EB,GC,iG,dE,h0,g1,k1,k2,k3,k4,k5,k6,k7,k8,hx,hu,nG,qA,Vl.kind,Vl.b,Vl.i,Vl.s,Vl.id,Vl.kn,Vl.keys,Vl.xn,Vl.items,Vl.rn,Vl.rest]
 ·generalize nxt cs 2=w at *
  obtain ⟨z,zi⟩:=w;simp only at hx hz z2 z3;refine ⟨true,[],zi,?_,z2,z3,by simp,fun v hv=>by cases hv⟩;simp only [UB] at hx ⊢;refine mD mB rfl rfl ?_;simp [mB,-J,-y4,-y3,y0,JA,IB,EB,GC,iG,dE,h0,g1,k1,k2,k3,k4,k5,k6,k7,k8,hx,hz,nG,qA,Vl.kind,Vl.b,Vl.i,Vl.s,Vl.id,Vl.kn,Vl.keys,Vl.xn,Vl.items,Vl.rn,Vl.rest]
end
end
section
structure MkL (b:Bool) (S:List pA) (c:Bool) (cs:List Int) (x:pA) (i:Nat) (r:Nat) (s:aA):Prop where
 e0:(s.env 0).v=.ptr 0 0 0
 e5:∃ n,(s.env 5).v=.ptr 5 n 0/\s.mem 5 n=some (sA x)
 e4:∃ n,(s.env 4).v=.ptr 4 n 0/\s.mem 4 n=some EJ
 e9:(s.env 9).v=.int .i64 r
 st:∃ n nl items a ba,(s.env 6).v=.ptr 6 n 0/\s.mem 6 n=some (bI 7 0 nl items a)/\s.mem 0 0=some (tP b S c ba)/\GL ba/\ba.length<=cs.length/\items.length=i/\(∀ u∈items,QB S x.elem u=true/\u.ok/\u.i64)/\((nl=true/\a=.no/\items=[])\/nl=false/\a=.own 194 41)
theorem mklist_lp {rv:RV} (b:Bool) (S:List pA) (c:Bool) (cs:List Int) (x:pA) (n:Nat) (hn:n<=3) (V:n=0\/∀ ba,GL ba->ba.length<=cs.length->C8 b S c x.elem ba)
  (s:aA) (h:MkL b S c cs x 0 n s) (k:Ex->aA->Option RV) (hk:∀ s',MkL b S c cs x n 0 s'->k (.exit 3) s'=some rv):WI BU NU aK s k=some rv:=by
 refine eX n (fun i s=>MkL b S c cs x i (n - i) s) (fun e s=>e=.exit 3/\MkL b S c cs x n 0 s) (fun i hi s k h ih hk=>?_) _ _ h (fun e s h=>by obtain ⟨rfl,h⟩:=h; exact hk s h);obtain ⟨e0,⟨n5,e5,m5⟩,⟨n4,e4,m4⟩,e9,n6,nl,items,a,ba,e6,m6,m0,hc,fc,wd,hf,ha⟩:=h;refine iA ?_;simp only [sA] at m5;simp only [bI] at m6;simp only [tP] at m0;by_cases fa:i<n
 ·obtain ⟨r,hr⟩:∃ r,n - i=r + 1:=⟨n - i - 1,by omega⟩;rw [hr] at e9;have kf:n - (i + 1)=r:=by omega
  rw [kf] at ih;have lb:(0:Int)<(r:Int) + 1:=by omega
  have hw:IntKind.i64.wrap (r:Int)=(r:Int):=IntWalk.i64_in _ (by omega);have room:ZA 120 (items.length + 1)=true:=by rw [xA]; omega
  have LF:ZA 120 1=true:=by rw [xA]; omega
  have ac:=mK items;obtain ⟨v,et,hv,q1,q2,q3⟩:=(V.resolve_left (by omega)) ba hc fc;simp only [UB,qA v] at hv;have hf':∀ u∈items++[v],QB S x.elem u=true/\u.ok/\u.i64:=fun u hu=>by
   rcases yx.1 hu with hu | hu
   ·exact hf u hu
   ·rw [yO.1 hu]; exact q3
  rcases ha with ⟨rfl,rfl,rfl⟩ | ⟨rfl,rfl⟩
  all_goals
   simp [aK,-J,-y4,-y3,y0,JA,IB,EB,GC,e0,e5,m5,e6,m6,m0,e9,lb,hv,hw,room,LF,ac,BA,An.strip];refine ih fa _ ⟨by simp [e0],⟨n5,by simp [e5],by simp [m5,sA]⟩,⟨n4,by simp [e4],by simp [m4,EJ,An.strip]⟩,by simp,n6,false,_++[v],.own 194 41,et,by simp [e6],by simp [bI,qA v,An.strip],by cases b <;> cases c <;> simp [tP,rB,An.strip],q1,by omega,by simp [wd],hf',.inr ⟨rfl,rfl⟩⟩
 ·have gj:i=n:=by omega
  subst gj;rw [Nat.sub_self] at e9;simp [aK,-J,-y4,-y3,y0,e9];exact hk _ _ ⟨rfl,by simp [e0],⟨n5,by simp [e5],by simp [m5,sA]⟩,⟨n4,by simp [e4],by simp [m4]⟩,by simp [e9],n6,nl,items,a,ba,by simp [e6],by simp [m6,bI],by simp [m0,tP],hc,fc,wd,hf,ha⟩
section
variable {b:Bool} {S:List pA} {c:Bool} {cs:List Int} (hc:GL cs) {t:Int} (h0:0<=t) {x:pA} (g:S[t.toNat]?=some x)
include hc h0 g
theorem val7 (hk:x.kind=7) (hm:0<=x.max) (V:∀ ba,GL ba->ba.length<cs.length->C8 b S c x.elem ba) :
  ∃ (nl:Bool) (items:List Vl) (ba:List Int),dF BU NU 56 [.undef,.undef,.ptr 0 0 0,.int .i64 t] (some (.agg (UB b S c cs)))=some (.agg (fA (nG 7 0 nl items)),some (.agg (UB b S c ba)))/\GL ba/\ba.length<=cs.length/\(items.length:Int)<=x.max/\∀ u∈items,QB S x.elem u=true/\u.ok/\u.i64:=by
 have g1:(S.map eA)[t.toNat]?=some (eA x):=by simp [g]
 simp only [eA] at g1;have bw:0<min x.max 3 + 1:=by omega
 have hx:=JH b S c cs hc (min x.max 3 + 1) bw;obtain ⟨z0,z1,z2,z3,z4,z5⟩:=eL hc bw;have w1:IntKind.i64.wrap (min x.max 3 + 1)=min x.max 3 + 1:=IntWalk.i64_in _ (by omega);generalize nxt cs (min x.max 3 + 1)=w at *
 obtain ⟨z,zi⟩:=w;simp only at hx z0 z1 z2 z3 z4 z5;obtain ⟨n,rfl⟩:∃ n:Nat,z=n:=⟨z.toNat,by omega⟩;have V':n=0\/∀ ba,GL ba->ba.length<=zi.length->C8 b S c x.elem ba:=by
  by_cases ma:cs=[]
  ·have:=z5 ma;injection this with h1 h2;left; omega
  ·exact .inr fun ba h1 h2=>V ba h1 (by have:=z4 ma; omega)
 have H:=qO (ext:=NU) WW mB (f:=56) rfl rfl (args:=[.ptr 0 0 0,.int .i64 t]) (cs:=UB b S c cs)
  (F:=fun e s'=>e=.ret/\∃ nl items ba n',(s'.env 4).v=.ptr 4 n' 0/\s'.mem 4 n'=some ((fA (nG 7 0 nl items)).map fun v=>⟨v,.no⟩)/\s'.mem 0 0=some (tP b S c ba)/\GL ba/\ba.length<=zi.length/\items.length=n/\∀ u∈items,QB S x.elem u=true/\u.ok/\u.i64)
  (P:=fun r=>∃ nl items ba,r=(.agg (fA (nG 7 0 nl items)),some (.agg (UB b S c ba)))/\GL ba/\ba.length<=zi.length/\items.length=n/\∀ u∈items,QB S x.elem u=true/\u.ok/\u.i64) (fun k r zc=>by
   simp only [UB] at hx ⊢;simp [mB,-J,-y4,-y3,y0,JA,IB,EB,GC,h0,g1,hk,hx,w1]
   ·refine mklist_lp b S c zi x n (by omega) V' _ ?_ _ fun s' h=>?_
    ·exact ⟨by simp,⟨2,by simp,by simp [sA,hk]⟩,⟨1,by simp,by simp [EJ,rB]⟩,by simp,3,true,[],.no,zi,by simp,by simp [bI],by simp [tP],z2,yj _,rfl,fun j h=>by simp at h,.inl ⟨rfl,rfl,rfl⟩⟩
    ·obtain ⟨e0,⟨n5,e5,m5⟩,⟨n4,e4,m4⟩,e9,n6,nl,items,a,ba,e6,m6,m0,ae,fc,wd,hf,ha⟩:=h;simp only [EJ] at m4;simp only [bI] at m6;simp only [tP] at m0;simp [-J,-y4,-y3,y0,e0,e4,m4,e6,m6];exact zc _ _ ⟨rfl,nl,items,ba,n4,by simp [e4],by simp [nG,qA,Vl.kind,Vl.b,Vl.i,Vl.s,Vl.id,Vl.kn,Vl.keys,Vl.xn,Vl.items,Vl.rn,Vl.rest],by simp [tP,m0],ae,fc,wd,hf⟩) (fun e s' h=>by
   obtain ⟨rfl,nl,items,ba,n',e4,m4,m0,h1,h2,h3,h4⟩:=h;simp only [tP] at m0;rw [qA] at m4;refine ⟨(.agg (fA (nG 7 0 nl items)),some (.agg (UB b S c ba))),?_,nl,items,ba,rfl,h1,h2,h3,h4⟩;simp [mB,iG,dE,-J,-y4,-y3,y0,e4,m4,m0,UB,qA (nG 7 0 nl items)])
 obtain ⟨r,⟨nl,items,ba,rfl,h1,h2,h3,h4⟩,hr⟩:=H;exact ⟨nl,items,ba,hr,h1,by omega,by omega,h4⟩
end
end
section
def HH (kn:Bool) (ks:List Vl) (xn:Bool) (xs:List Vl):Vl:=.mk 8 false 0 ⟨#[]⟩ 0 kn ks xn xs true []
def PlO (S:List pA) (t:Int) (v:Vl):Prop:=QB S t v=true/\v.ok/\v.i64
structure Q0 (S:List pA) (x:pA) (i:Nat) (ks xs:List Vl):Prop where
 len:xs.length=ks.length
 le:ks.length<=i
 asc:BG ks=true
 keys:∀ u∈ks,PlO S x.key u
 items:∀ u∈xs,PlO S x.elem u
theorem put_ok {S:List pA} {x:pA} {i:Nat} {kn xn:Bool} {ks xs:List Vl} {k u:Vl} (h:Q0 S x i ks xs) (hk:PlO S x.key k) (hu:PlO S x.elem u):∃ kn' ks' xn' xh,putV (HH kn ks xn xs) k u=HH kn' ks' xn' xh/\Q0 S x (i + 1) ks' xh:=by
 have hp:=cY k ks;have e:putV (HH kn ks xn xs) k u=if K9 k ks=true then HH kn ks xn xs else HH false (WP (MD k ks) k ks) false (WP (MD k ks) u xs):=rfl
 rw [e];by_cases hh:K9 k ks=true
 ·exact ⟨kn,ks,xn,xs,by rw [if_pos hh],⟨h.len,by have:=h.le; omega,h.asc,h.keys,h.items⟩⟩
 ·refine ⟨false,WP (MD k ks) k ks,false,WP (MD k ks) u xs,by rw [if_neg hh],⟨?_,?_,asc_ins k ks h.asc (by simpa using hh),fun v hv=>?_,fun v hv=>?_⟩⟩
  ·rw [EX hp,EX (by rw [h.len]; exact hp),h.len]
  ·rw [EX hp]; have:=h.le; omega
  ·rcases T7 hv with rfl | hv
   ·exact hk
   ·exact h.keys v hv
  ·rcases T7 hv with rfl | hv
   ·exact hu
   ·exact h.items v hv
structure MkM (b:Bool) (S:List pA) (c:Bool) (cs:List Int) (x:pA) (i:Nat) (r:Nat) (s:aA):Prop where
 e0:(s.env 0).v=.ptr 0 0 0
 e5:∃ n,(s.env 5).v=.ptr 5 n 0/\s.mem 5 n=some (sA x)
 e4:∃ n,(s.env 4).v=.ptr 4 n 0/\s.mem 4 n=some EJ
 e10:(s.env 10).v=.int .i64 r
 st:∃ n kn ks xn xs ba,(s.env 6).v=.ptr 6 n 0/\s.mem 6 n=some (OA (HH kn ks xn xs))/\s.mem 0 0=some (tP b S c ba)/\GL ba/\ba.length<=cs.length/\Q0 S x i ks xs
theorem mkmap_lp {rv:RV} (b:Bool) (S:List pA) (c:Bool) (cs:List Int) (x:pA) (n:Nat) (hn:n<=3) (V:n=0\/∀ ba,GL ba->ba.length<=cs.length->C8 b S c x.key ba/\C8 b S c x.elem ba)
  (s:aA) (h:MkM b S c cs x 0 n s) (k:Ex->aA->Option RV) (hk:∀ s',MkM b S c cs x n 0 s'->k (.exit 5) s'=some rv):WI BU NU pK s k=some rv:=by
 refine eX n (fun i s=>MkM b S c cs x i (n - i) s) (fun e s=>e=.exit 5/\MkM b S c cs x n 0 s) (fun i hi s k h ih hk=>?_) _ _ h (fun e s h=>by obtain ⟨rfl,h⟩:=h; exact hk s h);obtain ⟨e0,⟨n5,e5,m5⟩,⟨n4,e4,m4⟩,e10,n6,kn,ks,xn,xs,ba,e6,m6,m0,hc,fc,hf⟩:=h;refine iA ?_;simp only [sA] at m5;simp only [tP] at m0;by_cases fa:i<n
 ·obtain ⟨r,hr⟩:∃ r,n - i=r + 1:=⟨n - i - 1,by omega⟩;rw [hr] at e10;have kf:n - (i + 1)=r:=by omega
  rw [kf] at ih;have lb:(0:Int)<(r:Int) + 1:=by omega
  have hw:IntKind.i64.wrap (r:Int)=(r:Int):=IntWalk.i64_in _ (by omega);have V':=V.resolve_left (by omega);obtain ⟨kv,zi,hkv,p1,p2,p3⟩:=(V' ba hc fc).1;obtain ⟨v,et,hv,q1,q2,q3⟩:=(V' zi p1 (by omega)).2;have hpu:=D9 (mput_ev (HH kn ks xn xs) kv v (by simp only [HH,Vl.keys]; have:=hf.le; omega) (by simp only [HH,Vl.keys,Vl.items]; exact hf.len) ((Vl.i64_def kv).1 p3.2.2).1 (fun u hu=>((Vl.i64_def u).1 (hf.keys u hu).2.2).1));obtain ⟨kn',ks',xn',xh,he,hf'⟩:=put_ok (kn:=kn) (xn:=xn) hf (k:=kv) (u:=v) p3 q3;rw [he] at hpu;simp only [evR] at hpu;generalize HH kn ks xn xs=mv at *
  generalize hmv':HH kn' ks' xn' xh=mv' at *
  simp only [UB,qA v] at hv;simp only [UB,qA kv] at hkv;simp only [OA] at m6;simp only [qA mv,qA kv,qA v,qA mv'] at hpu;simp [pK,-J,-y4,-y3,y0,JA,IB,EB,GC,e0,e5,m5,e6,m6,m0,e10,lb,hkv,hv,hpu,hw,rB];refine ih fa _ ⟨by simp [e0],⟨n5,by simp [e5],by simp [m5,sA]⟩,⟨n4,by simp [e4],by simp [m4,EJ]⟩,by simp,n6,kn',ks',xn',xh,et,by simp [e6],by simp [hmv',OA],by cases b <;> cases c <;> simp [tP,rB],q1,by omega,hf'⟩
 ·have gj:i=n:=by omega
  subst gj;rw [Nat.sub_self] at e10;simp [pK,-J,-y4,-y3,y0,e10];exact hk _ _ ⟨rfl,by simp [e0],⟨n5,by simp [e5],by simp [m5,sA]⟩,⟨n4,by simp [e4],by simp [m4]⟩,by simp [e10],n6,kn,ks,xn,xs,ba,by simp [e6],by simp [m6],by simp [m0,tP],hc,fc,hf⟩
section
variable {b:Bool} {S:List pA} {c:Bool} {cs:List Int} (hc:GL cs) {t:Int} (h0:0<=t) {x:pA} (g:S[t.toNat]?=some x)
include hc h0 g
theorem val8 (hk:x.kind=8) (hm:0<=x.max) (V:∀ ba,GL ba->ba.length<cs.length->C8 b S c x.key ba/\C8 b S c x.elem ba) :
  ∃ (kn:Bool) (ks:List Vl) (xn:Bool) (xs:List Vl) (ba:List Int) (n:Nat),dF BU NU 56 [.undef,.undef,.ptr 0 0 0,.int .i64 t] (some (.agg (UB b S c cs)))=some (.agg (fA (HH kn ks xn xs)),some (.agg (UB b S c ba)))/\GL ba/\ba.length<=cs.length/\(n:Int)<=x.max/\Q0 S x n ks xs:=by
 have g1:(S.map eA)[t.toNat]?=some (eA x):=by simp [g]
 simp only [eA] at g1;have bw:0<min x.max 3 + 1:=by omega
 have hx:=JH b S c cs hc (min x.max 3 + 1) bw;obtain ⟨z0,z1,z2,z3,z4,z5⟩:=eL hc bw;have w1:IntKind.i64.wrap (min x.max 3 + 1)=min x.max 3 + 1:=IntWalk.i64_in _ (by omega);generalize nxt cs (min x.max 3 + 1)=w at *
 obtain ⟨z,zi⟩:=w;simp only at hx z0 z1 z2 z3 z4 z5;obtain ⟨n,rfl⟩:∃ n:Nat,z=n:=⟨z.toNat,by omega⟩;have V':n=0\/∀ ba,GL ba->ba.length<=zi.length->C8 b S c x.key ba/\C8 b S c x.elem ba:=by
  by_cases ma:cs=[]
  ·have:=z5 ma;injection this with h1 h2;left; omega
  ·exact .inr fun ba h1 h2=>V ba h1 (by have:=z4 ma; omega)
 have H:=qO (ext:=NU) WW mB (f:=56) rfl rfl (args:=[.ptr 0 0 0,.int .i64 t]) (cs:=UB b S c cs)
  (F:=fun e s'=>e=.ret/\∃ kn ks xn xs ba n',(s'.env 4).v=.ptr 4 n' 0/\s'.mem 4 n'=some ((fA (HH kn ks xn xs)).map fun v=>⟨v,.no⟩)/\s'.mem 0 0=some (tP b S c ba)/\GL ba/\ba.length<=zi.length/\Q0 S x n ks xs)
  (P:=fun r=>∃ kn ks xn xs ba,r=(.agg (fA (HH kn ks xn xs)),some (.agg (UB b S c ba)))/\GL ba/\ba.length<=zi.length/\Q0 S x n ks xs) (fun k r zc=>by
   simp only [UB] at hx ⊢;simp [mB,-J,-y4,-y3,y0,JA,IB,EB,GC,h0,g1,hk,hx,w1];refine mkmap_lp b S c zi x n (by omega) V' _ ?_ _ fun s' h=>?_
   ·exact ⟨by simp,⟨2,by simp,by simp [sA,hk]⟩,⟨1,by simp,by simp [EJ,rB]⟩,by simp,3,true,[],true,[],zi,by simp,by simp [OA,HH,Vl.kind,Vl.b,Vl.i,Vl.s,Vl.id,Vl.kn,Vl.keys,Vl.xn,Vl.items,Vl.rn,Vl.rest],by simp [tP],z2,yj _,⟨rfl,yj _,rfl,fun j h=>(nomatch h),fun j h=>(nomatch h)⟩⟩
   ·obtain ⟨e0,⟨n5,e5,m5⟩,⟨n4,e4,m4⟩,e10,n6,kn,ks,xn,xs,ba,e6,m6,m0,ae,fc,hf⟩:=h;simp only [EJ] at m4;simp only [OA] at m6;simp only [tP] at m0;generalize hmv:HH kn ks xn xs=mv at *
    simp [-J,-y4,-y3,y0,e0,e4,m4,e6,m6];exact zc _ _ ⟨rfl,kn,ks,xn,xs,ba,n4,by simp [e4],by simp [hmv,qA mv],by simp [tP,m0],ae,fc,hf⟩) (fun e s' h=>by
   obtain ⟨rfl,kn,ks,xn,xs,ba,n',e4,m4,m0,h1,h2,h3⟩:=h;simp only [tP] at m0;refine ⟨(.agg (fA (HH kn ks xn xs)),some (.agg (UB b S c ba))),?_,kn,ks,xn,xs,ba,rfl,h1,h2,h3⟩;generalize HH kn ks xn xs=mv at *
   rw [qA] at m4;simp [mB,iG,dE,-J,-y4,-y3,y0,e4,m4,m0,UB,qA mv])
 obtain ⟨r,⟨kn,ks,xn,xs,ba,rfl,h1,h2,h3⟩,hr⟩:=H;exact ⟨kn,ks,xn,xs,ba,n,hr,h1,by omega,by omega,h3⟩
end
end
structure MkF (S:List pA):Prop where
 lea:aN S
 sm:∀ x∈S,x.sm
 few:∀ x∈S,x.mems.length<=12
 rnk:∀ (j:Nat) (x:pA),S[j]?=some x->∀ m∈x.mems,∃ y,S[m.ty.toNat]?=some y/\(7<=y.kind\/m.ty<j)
def eR (S:List pA) (t:Int):Nat:=match S[t.toNat]? with
 | some x=>if 7<=x.kind then 0 else t.toNat + 1
 | none=>0
theorem rankT_le (S:List pA) (t:Int):eR S t<=S.length:=by
 unfold eR;cases h:S[t.toNat]? with
 | none=>simp
 | some x =>
  have:=(y9.1 h).1;simp only;split <;> omega
theorem I4 {k:Int} {b:Bool} {i:Int} {s:ByteArray} {d:Int} (h:s.size<=9223372036854775807):(Vl.of k b i s d).ok:=by
 rw [Vl.of,ok_mk];simp [h]
theorem QW {k:Int} {b:Bool} {i:Int} {s:ByteArray} {d:Int} (h:zH i):(Vl.of k b i s d).i64:=by
 rw [Vl.of,Z9];simp [h]
theorem z64:zH 0:=by unfold zH; omega
theorem lT {k d:Int} {nl:Bool} {items:List Vl} (hl:items.length<=9223372036854775807) (h:∀ u∈items,u.ok/\u.i64):(nG k d nl items).ok/\(nG k d nl items).i64:=by
 constructor
 ·rw [nG,ok_mk];exact ⟨by simp,hl,by simp,by decide,fun x hx=>(nomatch hx),fun x hx=>(h x hx).1⟩
 ·rw [nG,Z9];exact ⟨z64,fun x hx=>(nomatch hx),fun x hx=>(h x hx).2⟩
theorem uX {S:List pA}:∀ (ms:List zB) (items:List Vl),items.length=ms.length->ZR S ms items->BD (QB S) ms items=true
 | [],[],_,_=>rfl
 | [],_ :: _,h,_=>by simp at h
 | _ :: _,[],h,_=>by simp at h
 | m :: r,v :: q,h,hf=>by
  rw [BD,(hf 0 m v rfl rfl).1,uX r q (by simpa using h) fun j m' v' h1 h2=>hf (j + 1) m' v' (by simpa using h1) (by simpa using h2)];rfl
theorem fits_all {S:List pA} {ms:List zB} {items:List Vl} (h:items.length=ms.length) (hf:ZR S ms items):∀ u∈items,u.ok/\u.i64:=fun u hu=>by
 obtain ⟨j,hj,rfl⟩:=yq hu;have:=hf j ms[j] items[j] (by simp [show j<ms.length by omega]) (by simp [hj]);exact this.2
theorem symIx_mem {l:List nQ} {y:nQ} (h:y∈l):0<=ZF l y.id:=by
 have h1:=GH (fun x:nQ=>decide (x.id=y.id)) l;rw [List.any_eq_true.2 ⟨y,h,by simp⟩] at h1;exact of_decide_eq_true h1
theorem mk_all {S:List pA} (F:MkF S) (b c:Bool):∀ (N:Nat) (t:Int) (cs:List Int),GL cs->0<=t->t<S.length->cs.length * (S.length + 2) + eR S t<=N->C8 b S c t cs:=by
 intro N
 induction N using Nat.strongRecOn with
 | ind N ih =>
  intro t cs hc h0 fa hN;have htl:t.toNat<S.length:=by omega
  have g:S[t.toNat]?=some S[t.toNat]:=by simp [htl]
  have dg:eR S t=if 7<=S[t.toNat].kind then 0 else t.toNat + 1:=by unfold eR; rw [g]
  have hx:=y8 htl;generalize S[t.toNat]=x at *
  have jm:=(F.lea.good x hx).1;have eu:=(F.lea.good x hx).2;have hW:=F.lea.win x hx;have xq:=lH jm;have hti:(t.toNat:Int)=t:=by omega
  have pd:∀ v,QB S t v=(decide (v.kind=x.kind)&&sC v&&jE (QB S) x v):=fun v=>by
   have:=plain_at F.lea g (v:=v)
   rwa [hti] at this
  -- with fewer choices
  have less:∀ (t':Int) ba,GL ba->0<=t'->t'<S.length->ba.length<cs.length->C8 b S c t' ba:=fun t' ba h1 h2 h3 h4=>by
   have hr:=rankT_le S t';have:(ba.length + 1) * (S.length + 2)<=cs.length * (S.length + 2):=yZ _ h4;rw [Nat.add_mul] at this;exact ih (ba.length * (S.length + 2) + eR S t') (by omega) t' ba h1 h2 h3 (yj _)
  -- members of a record or a union
  have mem:x.kind<7->∀ m∈x.mems,∀ ba,GL ba->ba.length<=cs.length->C8 b S c m.ty ba:=fun hk m hm ba h1 h2=>by
   obtain ⟨y,hy,hr⟩:=F.rnk t.toNat x g m hm;have tc:=hW.mems m hm;have hrm:eR S m.ty<eR S t:=by
    rw [dg,if_neg (by omega)];unfold eR;rw [hy];simp only;split <;> omega
   have:ba.length * (S.length + 2)<=cs.length * (S.length + 2):=yZ _ h2;exact ih (ba.length * (S.length + 2) + eR S m.ty) (by omega) m.ty ba h1 tc.1 tc.2 (yj _)
  have good:=jm;unfold dB at good;rw [y7,y7] at good;obtain ⟨_,good,_⟩:=good;unfold LG at good;by_cases k1:x.kind=1
  ·refine ⟨_,_,val1 hc h0 g k1,(eL hc (show (0:Int)<2 by omega)).2.2.1,(eL hc (show (0:Int)<2 by omega)).2.2.2.1,?_,I4 (by decide),QW z64⟩;rw [pd];simp [Vl.of,Vl.kind,k1,sC,jE,Vl.b,Vl.i,Vl.s,Vl.id,Vl.keys,Vl.items,Vl.rest]
  by_cases k2:x.kind=2
  ·have ko:=F.sm x hx k2;obtain ⟨a0,a1,a2,a3,_⟩:=eL hc (show (0:Int)<256 by omega);have b1:=yC (nxt cs 256).1 (show x.high - x.low + 1≠0 by omega);have b2:=yD (nxt cs 256).1 (show 0<x.high - x.low + 1 by omega);refine ⟨_,_,val2 hc h0 g k2 (by omega),a2,a3,?_,I4 (by decide),QW (by unfold zH; omega)⟩;rw [pd];generalize (nxt cs 256).1 % (x.high - x.low + 1)=z at *
   have q1:x.low<=x.low + z:=by omega
   have q2:x.low + z<=x.high:=by omega
   simp [Vl.of,Vl.kind,k2,sC,jE,Vl.b,Vl.i,Vl.s,Vl.id,Vl.keys,Vl.items,Vl.rest,q1,q2]
  by_cases k3:x.kind=3
  ·simp [k3] at good;obtain ⟨q,ba,h1,h2,h3,h4,h5⟩:=val3 hc h0 g k3 good.1;refine ⟨_,_,h1,h2,h3,?_,I4 (by omega),QW z64⟩;rw [pd];simp [Vl.of,Vl.kind,k3,sC,jE,Vl.b,Vl.i,Vl.s,Vl.id,Vl.keys,Vl.items,Vl.rest,h4]
  by_cases k4:x.kind=4
  ·have hs:x.syms≠[]:=fun q=>by simp [k4,q,gM] at good
   obtain ⟨y,ba,hy,h1,h2,h3⟩:=val4 hc h0 g k4 hs;refine ⟨_,_,h1,h2,h3,?_,I4 (by decide),QW z64⟩;rw [pd];simp [Vl.of,Vl.kind,k4,sC,jE,Vl.b,Vl.i,Vl.s,Vl.id,Vl.keys,Vl.items,Vl.rest,symIx_mem hy]
  by_cases k5:x.kind=5
  ·have hf:=F.few x hx;obtain ⟨nl,items,ba,h1,h2,h3,h4,h5⟩:=val5 hc h0 g k5 (by omega) (mem (by omega)) fun m hm hh=>by
    obtain ⟨j,hj,hmj⟩:=yq hm;exact ⟨F.lea.dfl x hx m hm hh,((eu.1.2.2 m hm)).1,F.lea.d64 x hx m hm⟩
   obtain ⟨o1,o2⟩:=lT (k:=5) (d:=0) (nl:=nl) (by omega) (fits_all h4 h5);refine ⟨_,_,h1,h2,h3,?_,o1,o2⟩;rw [pd];simp [nG,Vl.kind,k5,sC,jE,Vl.b,Vl.i,Vl.s,Vl.id,Vl.keys,Vl.items,Vl.rest,h4,uX _ _ h4 h5]
  by_cases k6:x.kind=6
  ·have ma:x.mems≠[]:=fun q=>by simp [k6,q,IG] at good
   obtain ⟨m,u,ba,hm,h1,h2,h3,h4⟩:=val6 hc h0 g k6 ma (mem (by omega));obtain ⟨o1,o2⟩:=lT (k:=6) (d:=m.id) (nl:=false) (items:=[u]) (by simp) (fun v hv=>by rw [yO.1 hv]; exact h4.2);refine ⟨_,_,h1,h2,h3,?_,o1,o2⟩;obtain ⟨j,hj,hmj⟩:=yq hm;have cu:=PX (RW jm).1 (c:=j) (m:=m) (by rw [<- hmj]; simp [hj]);have hgm:x.mems[j]?=some m:=by rw [<- hmj]; simp [hj]
   rw [pd];simp [nG,Vl.kind,k6,sC,jE,Vl.b,Vl.i,Vl.s,Vl.id,Vl.keys,Vl.items,Vl.rest,cu,hgm,uD,h4.1]
  by_cases k7:x.kind=7
  ·simp [k7] at good;have he:=hW.elem (by omega);obtain ⟨nl,items,ba,h1,h2,h3,h4,h5⟩:=val7 hc h0 g k7 good.1 fun ba a1 a2=>less _ ba a1 he.1 he.2 a2
   obtain ⟨o1,o2⟩:=lT (k:=7) (d:=0) (nl:=nl) (items:=items) (by omega) (fun u hu=>(h5 u hu).2);refine ⟨_,_,h1,h2,h3,?_,o1,o2⟩;rw [pd];have:items.all (QB S x.elem)=true:=y6.2 fun u hu=>(h5 u hu).1
   simp [nG,Vl.kind,k7,sC,jE,Vl.b,Vl.i,Vl.s,Vl.id,Vl.keys,Vl.items,Vl.rest,h4];exact fun u hu=>(h5 u hu).1
  by_cases k8:x.kind=8
  ·simp [k8] at good;have he:=hW.elem (by omega);have kg:=hW.key k8;obtain ⟨kn,ks,xn,xs,ba,n,h1,h2,h3,h4,h5⟩:=val8 hc h0 g k8 good.1 fun ba a1 a2=>⟨less _ ba a1 kg.1 kg.2 a2,less _ ba a1 he.1 he.2 a2⟩
   have hl:=h5.len;have bc:=h5.le;refine ⟨_,_,h1,h2,h3,?_,?_,?_⟩
   ·rw [pd];have q1:(ks.length:Int)<=x.max:=by omega
    have q2:=h5.asc;simp [HH,Vl.kind,k8,sC,jE,Vl.b,Vl.i,Vl.s,Vl.id,Vl.keys,Vl.items,Vl.rest,q1,hl,q2];exact ⟨fun u hu=>(h5.keys u hu).1,fun u hu=>(h5.items u hu).1⟩
   ·rw [HH,ok_mk];exact ⟨by omega,by omega,by simp,by decide,fun u hu=>(h5.keys u hu).2.1,fun u hu=>(h5.items u hu).2.1⟩
   ·rw [HH,Z9];exact ⟨z64,fun u hu=>(h5.keys u hu).2.2,fun u hu=>(h5.items u hu).2.2⟩
  have k9:x.kind=9:=by omega
  have he:=hW.elem (by omega);obtain ⟨nl,items,ba,h1,h2,h3,h4,h5⟩:=val9 hc h0 g (fun n n1 n2=>by omega) fun ba a1 a2=>less _ ba a1 he.1 he.2 a2
  obtain ⟨o1,o2⟩:=lT (k:=x.kind) (d:=0) (nl:=nl) (items:=items) (by omega) (fun u hu=>(h5 u hu).2);refine ⟨_,_,h1,h2,h3,?_,o1,o2⟩;rw [pd];simp [nG,Vl.kind,k9,sC,jE,Vl.b,Vl.i,Vl.s,Vl.id,Vl.keys,Vl.items,Vl.rest,h4];exact fun u hu=>(h5 u hu).1
theorem typZ_memU {l:List fC} (hl:oks l) {i:Nat} (hi:i<l.length) {m:zB} (la:m∈(kB l (i:Int)).mems):∃ rc id p,p.ok/\TH l (i:Int) id p=true/\m=GK l (i:Int) rc id p:=by
 have hx:=jF hl hi;unfold kB at la;generalize DA l (i:Int)=x at *
 have hp:∀ rc,m∈lE l (i:Int) rc x.parts->∃ rc id p,p.ok/\TH l (i:Int) id p=true/\m=GK l (i:Int) rc id p:=fun rc la=>by
  obtain ⟨id,p,_,_,h1,h2,h3⟩:=qK 12 m la;exact ⟨rc,id,p,hx.2.2.2.2.2 p h1,h2,h3⟩
 simp only at la;split at la <;> first | (simp [pA.of] at la; done) | exact hp _ la | skip
 all_goals split at la <;> first | (simp [pA.of] at la; done) | exact hp _ la
theorem dX (l:List fC):∀ n k,0<=fE l n k->7<=dC l (fE l n k)
 | 0,k,h=>by simp [fE] at h
 | n + 1,k,h=>by
  rw [fE] at h ⊢;by_cases hk:7<=dC l k
  ·rw [if_pos hk]; exact hk
  ·rw [if_neg hk] at h ⊢; exact dX l n (k + 1) h
theorem tgtZ_rank {l:List fC} {i code:Int} (hi:0<=i) (h:0<=PG l i code):7<=dC l (PG l i code)\/PG l i code<i:=by
 unfold PG at h ⊢;by_cases h1:7<=dC l (code % l.length)\/code % l.length<i
 ·rw [if_pos h1]; exact h1
 ·rw [if_neg h1] at h ⊢;by_cases h2:0<i
  ·rw [if_pos h2];exact .inr (yD _ h2)
  ·rw [if_neg h2] at h ⊢;exact .inl (dX l _ _ h)
theorem ZW {l:List fC} (hl:oks l):MkF (lA l):=by
 have hT:=XK l;obtain ⟨hf,h6⟩:=rwS_ok hl hT;have kh:=p5 hl hT;have hS:aN (lA l):=aN.of hf h6 (fun x hx=>(rwS_few hT x hx).2) kh;have D:=zS hl;refine ⟨hS,D.sm,fun x hx=>(rwS_few hT x hx).1,fun j x hj m hm=>?_⟩;have ia:(lA l).length=l.length:=by simp [lA]
 have bi:j<l.length:=by rw [<- ia]; exact (y9.1 hj).1
 have hx:x=kB l (j:Int):=by
  have:(lA l)[j]?=some (kB l (j:Int)):=by simp [lA,bi]
  rw [this] at hj;injection hj with hj;exact hj.symm
 subst hx;obtain ⟨rc,id,p,hp,px,he⟩:=typZ_memU hl bi hm;have ub:m.ty=PG l (j:Int) p.ty:=by rw [he]; rfl
 simp only [TH,decide_eq_true_eq] at px;have hW:=hS.win _ (yh hj);have hr:=hW.mems m hm;have rj:m.ty.toNat<l.length:=by omega
 refine ⟨kB l (m.ty.toNat:Int),by simp [lA,rj],?_⟩;rcases tgtZ_rank (l:=l) (i:=(j:Int)) (code:=p.ty) (by omega) px.2 with h | h
 ·left;have e:((m.ty.toNat:Nat):Int)=PG l (j:Int) p.ty:=by omega
  rw [FN l rj,e];have hk:=zX hl px.2 (by omega);rw [if_neg (fun q=>by omega)];split
  ·omega
  ·split <;> omega
 ·right;omega
theorem make_ev {S:List pA} (F:MkF S) (b:Bool) {t:Int} (h0:0<=t) (fa:t<S.length) (cn:Bool) (cs:List Int) (hc:GL cs) (hl:cs.length<=9223372036854775807):∃ v:Vl,evR 26 [QD b S,.int .i64 t,.sl cn (cs.map u8C)] (.agg (fA v))/\QB S t v=true/\v.ok/\v.i64:=by
 have ae:GL (cs.take 60):=fun x hx=>hc x (List.mem_of_mem_take hx)
 obtain ⟨v,ba,hv,_,_,h1,h2,h3⟩:=mk_all F b cn _ t (cs.take 60) ae h0 fa (yj _);refine ⟨v,?_,h1,h2,h3⟩;have lx:min 60 (cs.length:Int)=((min 60 cs.length:Nat):Int):=by omega
 have nv:(cs.map u8C).take (min 60 cs.length)=(cs.take 60).map u8C:=by
  rw [<- List.map_take];congr 1;rw [List.take_eq_take_iff];omega
 have ac:iB 1 (cs.map u8C)=true:=KB _ _ _ fun _=>rfl
 have bc:min 60 cs.length<=cs.length:=by omega
 simp only [UB,qA v,List.map_take] at hv;rw [qA v];refine gQ dQ rfl rfl ?_ rfl rfl;simp [dQ,-J,-y4,-y3,y0,QD,JA,IB,EB,GC,rB,lx,ac,nv,bc,hv]
end Go.Proofs.YtbhbeakhognieaaGreat
