/- A part of the proof. -/
import Derived.Test.YtbnlmgncbgaepaaGreatXz
import Derived.Test.YtbnlmgncbgaepaaGreatXl
set_option linter.all false
set_option maxRecDepth 100000
set_option maxHeartbeats 8000000
open Option renaming bind_some → V, map_eq_some_iff → yh, map_some → yA
open List renaming range_succ → J, map_map → y0, getElem?_eq_getElem → y4, all_eq_true → y5, getElem_mem → y6, getElem?_eq_some_iff → y9, drop_eq_getElem_cons → yb, getElem?_map → yc, mem_cons → yf, map_cons → yg, mem_of_getElem? → yj, length_append → yl, map_nil → yn, length_map → yo, map_congr_left → yq, mem_append → yt, take_of_length_le → yx, mem_map → yy, flatten_cons → yz, getElem_of_mem → yB, length_take → yC, length_cons → yE, getElem?_append_left → yF, eq_nil_of_length_eq_zero → yM, getElem?_take → yO, getElem?_append_right → yR, map_append → yS, getElem?_drop → yT, getElem?_eq_none → yW
open Int renaming toNat_lt → y3, tmod_eq_emod_of_nonneg → yu, emod_nonneg → yI, emod_lt_of_pos → yL
open Nat renaming le_refl → ym, zero_add → yG, mul_le_mul_right → yX
namespace Go.Proofs.YtbnlmgncbgaepaaGreat
open Go
def ZB:C:=.block 2 (oR [oS 93 (.bin .eql false (.t 67) (.c (.int .u8 0))),oM 92 93] (oD 92 (.reg [oM 94 8,oM 95 8,oK 96 95,oF 97 1 96,oL 98 97,oF 99 2 7,oLr 100 7 1 99,oS 101 (.bin .rem false (.t 100) (.c (.int .u8 5))),oB 102 .add 98 101,oS 103 (.bin .sub false (.t 102) (.c (.int .u8 2))),oK 104 94,oF 105 1 104,oW 105 103]) (oR [oS 107 (.bin .eql false (.t 67) (.c (.int .u8 1))),oM 106 107] (oD 106 (.reg [oM 108 8,oM 109 8,oK 110 109,oF 111 2 110,oL 112 111,oF 113 3 7,oLr 114 7 1 113,oS 115 (.bin .rem false (.t 114) (.c (.int .u8 5))),oB 116 .add 112 115,oS 117 (.bin .sub false (.t 116) (.c (.int .u8 2))),oK 118 108,oF 119 2 118,oW 119 117]) (oR [oS 121 (.bin .eql false (.t 67) (.c (.int .u8 2))),oM 120 121] (oD 120 (.reg [oM 122 8,oM 123 8,oK 124 123,oF 125 1 124,oL 126 125,oF 127 2 7,oLr 128 7 1 127,oS 129 (.bin .rem false (.t 128) (.c (.int .u8 6))),oS 130 (.bin .shl false (.c (.int .u8 1)) (.t 129)),oB 131 .xor 126 130,oK 132 122,oF 133 1 132,oW 133 131]) (oR [oS 135 (.bin .eql false (.t 67) (.c (.int .u8 3))),oM 134 135] (oD 134 (.reg [oM 136 8,oM 137 8,oK 138 137,oF 139 3 138,oL 140 139,oF 141 2 7,oLr 142 7 1 141,oB 143 .add 140 142,oK 144 136,oF 145 3 144,oW 145 143]) (oR [oS 147 (.bin .eql false (.t 67) (.c (.int .u8 4))),oM 146 147] (oD 146 (oR [oM 148 8,oK 149 148,oF 150 4 149,oL 151 150,oH 152 151,oC 153 .lss 152 8] (oD 153 (.reg [oM 154 8,oM 155 8,oK 156 155,oF 157 4 156,oL 158 157,oF 159 2 7,oLr 160 7 1 159,oF 161 3 7,oLr 162 7 1 161,oF 163 2 7,oLr 164 7 1 163,oS 165 (.bin .quo false (.t 164) (.c (.int .u8 12))),oS 166 (.build zzg [(0,(1,(.t 160))),(1,(1,(.t 162))),(2,(1,(.t 165)))]),oS 167 (.bsl zzg 1 [(0,(.t 166))]),oS 168 (.appm .any 165 3 3 (.t 158) (.t 167)),oK 169 154,oF 170 4 169,oW 170 168]) .skip)) (oR [oS 172 (.bin .eql false (.t 67) (.c (.int .u8 5))),oM 171 172] (oD 171 (oR [oM 173 8,oK 174 173,oF 175 4 174,oL 176 175,oH 177 176,oC 178 .gtr 177 0] (oD 178 (.reg [oM 179 8,oM 180 8,oK 181 180,oF 182 4 181,oL 183 182,oM 184 9,oS 185 (.slc false 3 (.t 183) .none (.some (.t 184)) .none),oM 186 8,oK 187 186,oF 188 4 187,oL 189 188,oM 190 9,oC 191 .add 190 1,oS 192 (.slc false 3 (.t 189) (.some (.t 191)) .none .none),oS 193 (.appm .any 165 3 3 (.t 185) (.t 192)),oK 194 179,oF 195 4 194,oW 195 193]) .skip)) (oR [oS 197 (.bin .eql false (.t 67) (.c (.int .u8 6))),oM 196 197] (oD 196 (oR [oM 198 8,oK 199 198,oF 200 4 199,oL 201 200,oH 202 201,oC 203 .gtr 202 0] (oD 203 (.reg [oM 204 8,oK 205 204,oF 206 4 205,oL 207 206,oM 208 9,oF 209 3 7,oLr 210 7 1 209,oI 211 3 207 208,oF 212 2 211,oW 212 210]) .skip)) (oR [oM 68 8,oK 69 68,oF 70 4 69,oL 71 70,oH 72 71,oC 73 .gtr 72 0] (oD 73 (.reg [oM 74 8,oK 75 74,oF 76 4 75,oL 77 76,oM 78 9,oM 79 8,oK 80 79,oF 81 4 80,oL 82 81,oM 83 9,oI 84 3 82 83,oF 85 1 84,oL 86 85,oF 87 3 7,oLr 88 7 1 87,oB 89 .add 86 88,oI 90 3 77 78,oF 91 1 90,oW 91 89]) .skip))))))))))))))))
theorem chg_L1:EC=.seq (.seq (.reg [⟨(.some 15),(.mv (.t 6)),.none⟩,⟨(.some 16),(.mv (.t 1)),.none⟩,⟨(.some 17),(.len .false (.t 16)),.none⟩,⟨(.some 18),(.bin .lss .false (.t 15) (.t 17)),.none⟩,⟨(.some 19),(.mv (.t 18)),.none⟩,⟨(.some 20),(.faddr 0 (.t 5)),(.some (19,.true))⟩,⟨(.some 21),(.load .any .false 1 (.t 20)),(.some (19,.true))⟩,⟨(.some 22),(.len .false (.t 21)),(.some (19,.true))⟩,⟨(.some 23),(.bin .gtr .false (.t 22) (.c (.int .i64 0))),(.some (19,.true))⟩,⟨(.some 24),(.pick (.t 19) (.t 23) (.c (.bool .false))),.none⟩]) (.cond (.t 24) .skip (.exit 0))) (.seq (.block 1 (.seq (.reg [⟨(.some 27),(.mv (.t 1)),.none⟩,⟨(.some 28),(.mv (.t 6)),.none⟩,⟨(.some 29),(.iaddr 4 (.t 27) (.t 28)),.none⟩,⟨(.some 30),(.load .any .true 4 (.t 29)),.none⟩,⟨(.some 7),(.alloc [(.int .u8 0),(.int .u8 0),(.int .u8 0),(.int .u8 0)]),.none⟩,⟨.none,(.store .any .true 4 (.t 7) (.t 30)),.none⟩]) (.seq (.reg [⟨(.some 31),(.faddr 0 (.t 5)),.none⟩,⟨(.some 32),(.load (.root 5) .false 1 (.t 31)),.none⟩,⟨(.some 33),(.faddr 1 (.t 7)),.none⟩,⟨(.some 34),(.load (.root 7) .false 1 (.t 33)),.none⟩,⟨(.some 35),(.conv (.some .i64) (.t 34)),.none⟩,⟨(.some 36),(.faddr 0 (.t 5)),.none⟩,⟨(.some 37),(.load (.root 5) .false 1 (.t 36)),.none⟩,⟨(.some 38),(.len .false (.t 37)),.none⟩,⟨(.some 39),(.bin .rem .false (.t 35) (.t 38)),.none⟩,⟨(.some 40),(.iaddr 5 (.t 32) (.t 39)),.none⟩,⟨(.some 8),(.mv (.t 40)),.none⟩]) (.seq (.reg [⟨(.some 41),(.mv (.t 8)),.none⟩,⟨(.some 42),(.bsl [(.int .u8 0),(.int .u8 0),(.int .u8 0)] 0 []),.none⟩,⟨(.some 43),(.mv (.t 8)),.none⟩,⟨(.some 44),(.nilchk (.t 43)),.none⟩,⟨(.some 45),(.faddr 4 (.t 44)),.none⟩,⟨(.some 46),(.load .any .false 1 (.t 45)),.none⟩,⟨(.some 47),(.appf .any 165 3 3 (.t 42) (.t 46)),.none⟩,⟨(.some 48),(.nilchk (.t 41)),.none⟩,⟨(.some 49),(.faddr 4 (.t 48)),.none⟩,⟨.none,(.store .any .false 1 (.t 49) (.t 47)),.none⟩]) (.seq (.reg [⟨(.some 9),(.mv (.c (.int .i64 0))),.none⟩]) (.seq (.seq (.reg [⟨(.some 50),(.mv (.t 8)),.none⟩,⟨(.some 51),(.nilchk (.t 50)),.none⟩,⟨(.some 52),(.faddr 4 (.t 51)),.none⟩,⟨(.some 53),(.load .any .false 1 (.t 52)),.none⟩,⟨(.some 54),(.len .false (.t 53)),.none⟩,⟨(.some 55),(.bin .gtr .false (.t 54) (.c (.int .i64 0))),.none⟩]) (.cond (.t 55) (.reg [⟨(.some 56),(.faddr 2 (.t 7)),.none⟩,⟨(.some 57),(.load (.root 7) .false 1 (.t 56)),.none⟩,⟨(.some 58),(.conv (.some .i64) (.t 57)),.none⟩,⟨(.some 59),(.mv (.t 8)),.none⟩,⟨(.some 60),(.nilchk (.t 59)),.none⟩,⟨(.some 61),(.faddr 4 (.t 60)),.none⟩,⟨(.some 62),(.load .any .false 1 (.t 61)),.none⟩,⟨(.some 63),(.len .false (.t 62)),.none⟩,⟨(.some 64),(.bin .rem .false (.t 58) (.t 63)),.none⟩,⟨(.some 9),(.mv (.t 64)),.none⟩]) .skip)) (.seq (.reg [⟨(.some 65),(.faddr 0 (.t 7)),.none⟩,⟨(.some 66),(.load .any .false 1 (.t 65)),.none⟩,⟨(.some 67),(.bin .rem .false (.t 66) (.c (.int .u8 8))),.none⟩]) ZB))))))) (.reg [⟨(.some 25),(.mv (.t 6)),.none⟩,⟨(.some 26),(.bin .add .false (.t 25) (.c (.int .i64 1))),.none⟩,⟨(.some 6),(.mv (.t 26)),.none⟩])):=rfl
structure xU where
 kind:Int
 node:Int
 a:Int
 b:Int
def nV (c:xU):List AV:=[.int .u8 c.kind,.int .u8 c.node,.int .u8 c.a,.int .u8 c.b]
def xU.ok (c:xU):Prop:=u8 c.kind/\u8 c.node/\u8 c.a/\u8 c.b
def pK (c:xU):List qA:=[⟨.int .u8 c.kind,.no⟩,⟨.int .u8 c.node,.no⟩,⟨.int .u8 c.a,.no⟩,⟨.int .u8 c.b,.no⟩]
abbrev Nd:=dC × qA
def tI (q:Nd):List qA:=[⟨.int .u8 q.1.k,.no⟩,⟨.int .u8 q.1.a,.no⟩,⟨.int .u8 q.1.b,.no⟩,⟨.int .u8 q.1.c,.no⟩,q.2]
def SA (xs:List Nd):List qA:=xs.flatMap tI
theorem ZQ:∀ xs:List Nd,(SA xs).length=xs.length * 5
 | []=>rfl
 | q :: r=>by
  have:=ZQ r;unfold SA at this ⊢;rw [List.flatMap_cons,yl,this,yE];simp [tI];omega
section
variable {xs:List Nd} {z:Nat}
include xs z
theorem iO {q:Nd} (h:xs[z]?=some q):SA xs=SA (xs.take z)++(tI q++SA (xs.drop (z + 1)))/\(SA (xs.take z)).length=z * 5:=by
 obtain ⟨hz,rfl⟩:=y9.1 h;refine ⟨?_,by rw [ZQ,yC]; omega⟩;have e:xs=xs.take z++(xs[z] :: xs.drop (z + 1)):=by rw [<- yb hz,List.take_append_drop]
 refine (congrArg SA e).trans ?_;unfold SA;rw [List.flatMap_append,List.flatMap_cons]
theorem CE {q:Nd} (h:xs[z]?=some q) (o:Nat) (ho:o<5):(SA xs)[z * 5 + o]?=(tI q)[o]?:=by
 obtain ⟨h1,h2⟩:=iO h;rw [h1,yR (by omega),h2,Nat.add_sub_cancel_left,yF (by simp [tI]; omega)]
theorem x7 {q q':Nd} (h:xs[z]?=some q) (o:Nat) (ho:o<5) (y:qA) (hq:(tI q).set o y=tI q'):(SA xs).set (z * 5 + o) y=SA (xs.set z q'):=by
 obtain ⟨h1,h2⟩:=iO h;have hz:=(y9.1 h).1;have h':(xs.set z q')[z]?=some q':=List.getElem?_set_self hz;obtain ⟨g1,g2⟩:=iO h';rw [h1,g1,List.set_append_right _ _ (by omega),h2,Nat.add_sub_cancel_left,List.set_append_left _ _ (by simp [tI]; omega),hq];rw [List.take_set_of_le (ym z),List.drop_set_of_lt (Nat.lt_succ_self z)]
theorem TE {q q':Nd} (h:xs[z]?=some q) (o:Nat) (ho:o<5) (v:AV) (a:An) (hv:v.leaf=true) (hq:(tI q).set o ⟨v,a⟩=tI q'):mA false 1 (z * 5 + o) (SA xs) v a=some (SA (xs.set z q')):=by
 have hz:=(y9.1 h).1;have hl:=ZQ xs;simp only [mA,hv];rw [<- x7 h o ho _ hq];simp;omega
end
def eV (x:qA):Option Nat:=match x.v with
 | .ref _ M _ _ _ _=>some M
 | _=>none
def PcI (M:Nat->Nat->Option (List qA)) (n:Nat) (x:qA):Prop :=
 (∃ (nl:Bool) (ps:List WP) (a:An),x=⟨.sl nl (ps.map qE),a⟩/\(a=.no\/a=.ex)/\(∀ p∈ps,p.ok)/\ps.length * 3<=140737488355328) ∨
 ∃ (t N c:Nat) (ps:List WP),x=⟨.ref t N 3 0 ps.length c,.no⟩/\(t=47\/t=168\/t=193)/\N<n/\M t N=some (sA (ps.map qE))/\(∀ p∈ps,p.ok)/\ps.length * 3<=140737488355328
def wD (n:Nat) (ex:Option Nat) (M M':Nat->Nat->Option (List qA)):Prop:=∀ (t N:Nat) (ps:List WP),(t=47\/t=168\/t=193)->N<n->some N≠ex->M t N=some (sA (ps.map qE))->M' t N=some (sA (ps.map qE))
theorem wD.refl (n:Nat) (ex:Option Nat) (M:Nat->Nat->Option (List qA)):wD n ex M M:=fun _ _ _ _ _ _ h=>h
theorem wD.set {n:Nat} {ex:Option Nat} {M M':Nat->Nat->Option (List qA)} (h:wD n ex M M') {t' n':Nat} {r:List qA} (hn:n<=n'\/¬ (t'=47\/t'=168\/t'=193)):wD n ex M (eY M' t' n' r):=fun t N ps ht hN hx hm=>by
 rw [rB,if_neg]
 ·exact h t N ps ht hN hx hm
 ·rintro ⟨rfl,rfl⟩;rcases hn with hn | hn
  ·omega
  ·exact hn ht
theorem SN (ps:List WP):SD (ps.map qE)=true:=qL qE ps fun p=>by simp [qE,AV.free0]
theorem EI (ps:List WP):lB 3 (ps.map qE)=true:=cC _ _ _ fun _=>rfl
theorem wD.kill {n:Nat} {ex:Option Nat} {M M':Nat->Nat->Option (List qA)} (h:wD n ex M M') {t' n':Nat} (hn:ex=some n'):wD n ex M (FY t' n' M'):=fun t N ps ht hN hx hm=>by
 rw [jB,if_neg,h t N ps ht hN hx hm]
 ·simp only [yA,pX (SN ps)]
 ·rintro ⟨rfl,rfl⟩;exact hx hn.symm
theorem PcI.pres {M M':Nat->Nat->Option (List qA)} {n n':Nat} {x:qA} (h:PcI M n x) {ex:Option Nat} (hp:wD n ex M M') (hn:n<=n') (hx:∀ N,eV x=some N->some N≠ex):PcI M' n' x:=by
 rcases h with h | ⟨t,N,c,ps,rfl,h1,h2,h3,h4,h5⟩
 ·exact .inl h
 ·exact .inr ⟨t,N,c,ps,rfl,h1,by omega,hp t N ps h1 h2 (hx N rfl) h3,h4,h5⟩
structure E2 (L:Nat) (M:Nat->Nat->Option (List qA)) (n:Nat) (xs:List Nd):Prop where
 len:xs.length=L
 row:M 13 2=some (SA xs)
 num:∀ q∈xs,u8 q.1.k/\u8 q.1.a/\u8 q.1.b/\u8 q.1.c
 pc:∀ q∈xs,PcI M n q.2
 dist:∀ (j k:Nat) (a b:Nd) (N:Nat),j≠k->xs[j]?=some a->xs[k]?=some b->eV a.2=some N->eV b.2=some N->False
theorem E2.upd {L:Nat} {M M':Nat->Nat->Option (List qA)} {n n':Nat} {xs:List Nd} (h:E2 L M n xs) {z:Nat} {q q':Nd} (hz:xs[z]?=some q) (la:M' 13 2=some (SA (xs.set z q'))) (mc:u8 q'.1.k/\u8 q'.1.a/\u8 q'.1.b/\u8 q'.1.c) (rf:PcI M' n' q'.2) (hp:wD n (eV q.2) M M') (hn:n<=n') (wb:eV q'.2=eV q.2\/∀ N,eV q'.2=some N->n<=N):E2 L M' n' (xs.set z q'):=by
 have dl:=(y9.1 hz).1;have hother:∀ (k:Nat) (b:Nd),k≠z->xs[k]?=some b->PcI M' n' b.2:=fun k b hk hb=>(h.pc b (yj hb)).pres hp hn fun N hN e=>h.dist k z b q N hk hb hz hN e.symm
 have ri:∀ (k:Nat) (b:Nd),(xs.set z q')[k]?=some b->(k=z/\b=q')\/(k≠z/\xs[k]?=some b):=fun k b hb=>by
  rw [List.getElem?_set] at hb;by_cases e:z=k
  ·rw [if_pos e,if_pos dl] at hb;injection hb with hb;exact .inl ⟨e.symm,hb.symm⟩
  ·rw [if_neg e] at hb;exact .inr ⟨fun h=>e h.symm,hb⟩
 have ff:∀ (b:Nd) (N:Nat),b∈xs->eV b.2=some N->N<n:=fun b N hb hN=>by
  rcases h.pc b hb with ⟨nl,ps,a,e,_⟩ | ⟨t,N',c,ps,e,_,h2,_⟩
  ·rw [e] at hN; simp [eV] at hN
  ·rw [e] at hN; simp [eV] at hN; omega
 refine ⟨by simp [h.len],la,fun b hb=>?_,fun b hb=>?_,fun j k a b N hjk ha hb bz hNb=>?_⟩
 ·obtain ⟨k,hk,rfl⟩:=yB hb;rcases ri k _ (y4 hk) with ⟨_,e⟩ | ⟨_,e⟩
  ·rw [e]; exact mc
  ·exact h.num _ (yj e)
 ·obtain ⟨k,hk,rfl⟩:=yB hb;rcases ri k _ (y4 hk) with ⟨_,e⟩ | ⟨tc,e⟩
  ·rw [e]; exact rf
  ·exact hother k _ tc e
 ·rcases ri j a ha with ⟨hj,rfl⟩ | ⟨hj,jv⟩
  ·rcases ri k b hb with ⟨hk,rfl⟩ | ⟨hk,ua⟩
   ·omega
   ·rcases wb with e | e
    ·exact h.dist z k q b N (by omega) hz ua (by rw [<- e]; exact bz) hNb
    ·have:=e N bz;have:=ff b N (yj ua) hNb;omega
  ·rcases ri k b hb with ⟨hk,rfl⟩ | ⟨hk,ua⟩
   ·rcases wb with e | e
    ·exact h.dist j z a q N (by omega) jv hz bz (by rw [<- e]; exact hNb)
    ·have:=e N hNb;have:=ff a N (yj jv) bz;omega
   ·exact h.dist j k a b N hjk jv ua bz hNb
theorem gU {L:Nat} {M:Nat->Nat->Option (List qA)} {n:Nat} {xs:List Nd} (h:E2 L M n xs) {z:Nat} {q:Nd} (hz:xs[z]?=some q) {t N:Nat} (hN:eV q.2=some N):(SA xs).map (qA.kill t N)=SA (xs.set z (q.1,q.2.kill t N)):=by
 have dl:=(y9.1 hz).1;have e1:xs.map (fun b:Nd=>((b.1,b.2.kill t N):Nd))=xs.set z (q.1,q.2.kill t N):=by
  refine List.ext_getElem? fun k=>?_
  rw [yc,List.getElem?_set];by_cases e:z=k
  ·subst e;rw [if_pos rfl,if_pos dl,hz];rfl
  ·rw [if_neg e];cases hk:xs[k]? with
   | none=>rfl
   | some b =>
    have hb:b.2.kill t N=b.2:=by
     rcases h.pc b (yj hk) with ⟨nl,ps,a,e',_⟩ | ⟨t',N',c,ps,e',_⟩
     ·rw [e'];show (⟨AV.kill t N (.sl nl (ps.map qE)),a⟩:qA)=_;rfl
     ·have na:N'≠N:=fun e2=>h.dist k z b q N (fun e3=>e e3.symm) hk hz (by rw [e',e2]; rfl) hN
      rw [e'];simp [qA.kill_mk,AV.kill,AV.kill0,na]
    simp only [yA,hb]
 rw [<- e1];unfold SA;rw [List.map_flatMap,List.flatMap_map];congr 1
structure iY (cn:Bool) (cs:List xU) (L i:Nat) (xs:List Nd) (s:aA):Prop where
 e1:(s.env 1).v=.sl cn (cs.map nV)
 e4:(s.env 4).v=.ptr 4 1 0
 e5:(s.env 5).v=.ptr 5 2 0
 e6:(s.env 6).v=.int .i64 i
 m4:s.mem 4 1=some [⟨.sl true [],.ex⟩]
 m5:s.mem 5 2=some [⟨.ref 13 2 5 0 L L,.no⟩]
 nds:E2 L s.mem s.next xs
 nx:2<s.next
def OwnP (s:aA) (ps:List WP) (pc:qA):Prop:=(ps=[]/\pc=⟨.sl false [],.ex⟩)\/(ps≠[]/\∃ N,pc=⟨.ref 47 N 3 0 ps.length ps.length,.no⟩/\N<s.next/\s.mem 47 N=some (sA (ps.map qE)))
structure ChT (cn:Bool) (cs:List xU) (L i:Nat) (xs:List Nd) (c:xU) (z:Nat) (x:dC) (pc:qA) (ps:List WP) (s:aA):Prop where
 ch:iY cn cs L i xs s
 e7:∃ n7,(s.env 7).v=.ptr 7 n7 0/\s.mem 7 n7=some (pK c)
 e8:(s.env 8).v=.ptr 13 2 (z * 5)
 e9:∃ kk:Nat,(s.env 9).v=.int .i64 kk/\(ps≠[]->kk<ps.length)
 e67:(s.env 67).v=.int .u8 (c.kind % 8)
 hz:xs[z]?=some (x,pc)
 pcs:OwnP s ps pc
 ok:∀ p∈ps,p.ok
 sz:ps.length * 3<=140737488355328
theorem chg_head {r:RV} {cn:Bool} {cs:List xU} {L i:Nat} (hi:i<cs.length) (bd:cs.length<=9223372036854775807) (ra:∀ c∈cs,c.ok) (hL0:0<L) (hL1:L<=140737488355328) {xs:List Nd} {s:aA} (h:iY cn cs L i xs s) (k:Ex->aA->Option RV)
  (hk:∀ s' oj c z x pc ps (kk:Ex->aA->Option RV),c∈cs->ChT cn cs L i oj c z x pc ps s'->(∀ s2 jh,iY cn cs L i jh s2->kk .nrm s2=some r)->ZB.run (wH jA rA) (HK jA rA) s' kk=some r)
  (ih:∀ s' oj,iY cn cs L (i + 1) oj s'->OI jA rA EC s' k=some r):OI jA rA EC s k=some r:=by
 obtain ⟨e1,e4,e5,e6,m4,m5,nds,nx⟩:=h;refine tA ?_;have fa:(i:Int)<cs.length:=by omega
 have g1:(cs.map nV)[i]?=some (nV cs[i]):=by simp [hi]
 have rg:=ZA (i:=i);have xr:=y6 hi;have hco:=ra _ xr;generalize cs[i]=c at *
 obtain ⟨⟨k1,k2⟩,⟨n1,n2⟩,⟨a1,a2⟩,b1,b2⟩:=hco;simp only [nV] at g1;have xq:IntKind.i64.wrap c.node=c.node:=IntWalk.i64_in _ (by omega);have hwa:IntKind.i64.wrap c.a=c.a:=IntWalk.i64_in _ (by omega);have hm:c.node.tmod L=c.node % L:=yu (by omega);have gc:=yI c.node (b:=(L:Int)) (by omega);have jp:=yL c.node (b:=(L:Int)) (by omega);have h8:c.kind.tmod 8=c.kind % 8:=yu (by omega);have hLi:(0:Int)<L:=by omega
 have hLn:¬ L=0:=by omega
 generalize c.node % (L:Int)=zz at *
 have dl:zz.toNat<xs.length:=by rw [nds.len]; omega
 obtain ⟨q,hq⟩:∃ q,xs[zz.toNat]?=some q:=⟨_,y4 dl⟩;obtain ⟨x,pc⟩:=q;have mc:=nds.num _ (yj hq);have g46:(SA xs)[zz.toNat * 5 + 4]?=some pc:=CE hq 4 (by omega);have cont:∀ (s2:aA) (jh:List Nd) (E:Nat->qA),iY cn cs L i jh s2->s2.env=E->iY cn cs L (i + 1) jh ⟨putE (putE (putE E 25 ⟨.int .i64 i,(E 6).a⟩) 26 ⟨.int .i64 ((i + 1:Nat):Int),.no⟩) 6 ⟨.int .i64 ((i + 1:Nat):Int),.no⟩,s2.mem,s2.next + 1,s2.obj,s2.gh⟩:=fun s2 jh E h he=>by
  subst he;obtain ⟨e1,e4,e5,e6,m4,m5,nds,nx⟩:=h;exact ⟨by simp [e1],by simp [e4],by simp [e5],by simp,m4,m5,⟨nds.len,nds.row,nds.num,fun q hq=>(nds.pc q hq).pres (ex:=none) (wD.refl _ _ _) (by dsimp only; omega) (by simp),nds.dist⟩,by dsimp only; omega⟩
 have KN:∀ (s':aA) (oj:List Nd) (pc':qA) (ps:List WP),ChT cn cs L i oj c zz.toNat x pc' ps s'->ZB.run (wH jA rA) (HK jA rA) s' (blkK 1 (seqK (wH jA rA) (HK jA rA) (.reg [⟨some 25,.mv (.t 6),none⟩,⟨some 26,.bin .add false (.t 25) (.c (.int .i64 1)),none⟩,⟨some 6,.mv (.t 26),none⟩]) (uM (OI jA rA) EC k)))=some r:=fun s' oj pc' ps hT=>by
  refine hk s' oj c _ x pc' ps _ xr hT (fun s2 jh h2=>?_);have e6:=h2.e6;simp [-V,-y3,-y0,J,e6,rg];exact ih _ _ (cont s2 jh _ h2 rfl)
 rw [chg_L1];have rf:=nds.pc _ (yj hq);have sq:∃ ps:List WP,(∀ p∈ps,p.ok)/\ps.length * 3<=140737488355328/\((∃ nl a,pc=⟨.sl nl (ps.map qE),a⟩)\/∃ t N c0,pc=⟨.ref t N 3 0 ps.length c0,.no⟩/\(t=47\/t=168\/t=193)/\N<s.next/\s.mem t N=some (sA (ps.map qE))):=by
  rcases rf with ⟨nl,ps,a,h1,_,h3,h4⟩ | ⟨t,N,c0,ps,h1,h2,h3,h4,h5,h6⟩
  ·exact ⟨ps,h3,h4,.inl ⟨nl,a,h1⟩⟩
  ·exact ⟨ps,h5,h6,.inr ⟨t,N,c0,h1,h2,h3,h4⟩⟩
 obtain ⟨ps,tn,hps,jy⟩:=sq;have fg:=nds.row;have px:=TE (q':=(x,⟨.sl false [],.ex⟩)) hq 4 (by omega) (.sl false []) .ex rfl rfl;have pg:∀ n,mA false 1 (zz.toNat * 5 + 4) (SA xs) (.ref 47 n 3 0 ps.length ps.length) .no=some (SA (xs.set zz.toNat (x,⟨.ref 47 n 3 0 ps.length ps.length,.no⟩))):=fun n=>TE hq 4 (by omega) _ .no rfl rfl
 have hgz:∀ y,(xs.set zz.toNat (x,y))[zz.toNat]?=some (x,y):=fun y=>List.getElem?_set_self dl
 have hg0:=CE (hgz ⟨.sl false [],.ex⟩) 4 (by omega);have hg1:∀ n,(SA (xs.set zz.toNat (x,⟨.ref 47 n 3 0 ps.length ps.length,.no⟩)))[zz.toNat * 5 + 4]?=some ⟨.ref 47 n 3 0 ps.length ps.length,.no⟩:=fun n=>CE (hgz _) 4 (by omega)
 have hg0':(SA (xs.set zz.toNat (x,⟨.sl false [],.ex⟩)))[zz.toNat * 5 + 4]?=some ⟨.sl false [],.ex⟩:=hg0;clear hg0;have ka:eB 3 ps.length=true:=by rw [EA]; omega
 have ng:eB 3 0=true:=by decide
 have ze:aE (sA (ps.map qE)) 3 0 ps.length=some (ps.map qE):=by
  have:=GG (EI ps) (SN ps);simpa using this
 have q3:=EI ps;have fr:∀ (n':Nat) (M':Nat->Nat->Option (List qA)) (y:qA),PcI M' n' y->wD s.next (eV pc) s.mem M'->s.next<=n'->M' 13 2=some (SA (xs.set zz.toNat (x,y)))->(eV y=eV pc\/∀ N,eV y=some N->s.next<=N)->E2 L M' n' (xs.set zz.toNat (x,y)):=fun n' M' y h1 h2 h3 h4 h5=>nds.upd hq h4 mc h1 h2 h3 h5
 by_cases na:ps=[]
 ·have hpc0:∀ M' n',PcI M' n' ⟨.sl false [],.ex⟩:=fun M' n'=>.inl ⟨false,[],.ex,rfl,.inr rfl,by simp,by simp⟩
  rcases jy with ⟨nl,a,rfl⟩ | ⟨t,N,c0,rfl,ht,hN,jn⟩
  ·subst na;simp at g46;generalize ki:SA xs=R0 at *
   generalize sg:SA (xs.set zz.toNat (x,⟨.sl false [],.ex⟩))=R1 at *
   simp [-V,-y3,-y0,J,-MA,-mA,wB,uB,PA,AA,e1,e4,e5,e6,m4,m5,fg,fa,g1,hLi,hLn,hL0,xq,hm,gc,jp,h8,g46,rg,px,hg0',ng];refine KN _ (xs.set zz.toNat (x,⟨.sl false [],.ex⟩)) ⟨.sl false [],.ex⟩ [] ⟨⟨?_,?_,?_,?_,?_,?_,fr _ _ _ ?_ ?_ ?_ ?_ ?_,?_⟩,⟨s.next + 1,?_,?_⟩,?_,⟨0,?_,?_⟩,?_,hgz _,.inl ⟨rfl,rfl⟩,tn,hps⟩
   ·simp [e1]
   ·simp [e4]
   ·simp [e5]
   ·simp [e6]
   ·simp [m4]
   ·simp [m5]
   ·exact hpc0 _ _
   ·dsimp only
    repeat (first | exact wD.refl _ _ _ | refine wD.set ?_ (.inr (by decide)) | refine wD.set ?_ (.inl (by omega)))
   ·dsimp only; omega
   ·simp [sg]
   ·right;intro N hN;simp [eV] at hN
    try omega
   ·dsimp only; omega
   ·simp
   ·simp [pK]
   ·simp
   ·simp
   ·first | (intro _; omega) | simp
   ·simp
  ·subst na;simp at g46 jn ze;generalize ki:SA xs=R0 at *
   generalize sg:SA (xs.set zz.toNat (x,⟨.sl false [],.ex⟩))=R1 at *
   have h7:¬ t=7:=by omega
   simp [-V,-y3,-y0,J,-MA,-mA,wB,uB,PA,AA,e1,e4,e5,e6,m4,m5,fg,fa,g1,hLi,hLn,hL0,xq,hm,gc,jp,h8,g46,rg,px,hg0',ng,jn,ze,Cl.okMem,h7];refine KN _ (xs.set zz.toNat (x,⟨.sl false [],.ex⟩)) ⟨.sl false [],.ex⟩ [] ⟨⟨?_,?_,?_,?_,?_,?_,fr _ _ _ ?_ ?_ ?_ ?_ ?_,?_⟩,⟨s.next + 1,?_,?_⟩,?_,⟨0,?_,?_⟩,?_,hgz _,.inl ⟨rfl,rfl⟩,tn,hps⟩
   ·simp [e1]
   ·simp [e4]
   ·simp [e5]
   ·simp [e6]
   ·simp [m4]
   ·simp [m5]
   ·exact hpc0 _ _
   ·dsimp only
    repeat (first | exact wD.refl _ _ _ | refine wD.set ?_ (.inr (by decide)) | refine wD.set ?_ (.inl (by omega)))
   ·dsimp only; omega
   ·simp [sg]
   ·right;intro N hN;simp [eV] at hN
    try omega
   ·dsimp only; omega
   ·simp
   ·simp [pK]
   ·simp
   ·simp
   ·first | (intro _; omega) | simp
   ·simp
 ·have lg:ps.isEmpty=false:=by simpa using na
  have rh:0<ps.length:=List.length_pos_iff.2 na;have si:(0:Int)<ps.length:=by omega
  have hln:¬ ps.length=0:=by omega
  have hma:c.a.tmod ps.length=c.a % ps.length:=yu (by omega);have xj:=yI c.a (b:=(ps.length:Int)) (by omega);have fd:=yL c.a (b:=(ps.length:Int)) (by omega);obtain ⟨kk,tb⟩:∃ kk:Nat,c.a % (ps.length:Int)=kk:=⟨(c.a % (ps.length:Int)).toNat,by omega⟩;rw [tb] at hma fd;obtain ⟨R1,cz⟩:∃ R1:Nat->List qA,∀ n,SA (xs.set zz.toNat (x,⟨.ref 47 n 3 0 ps.length ps.length,.no⟩))=R1 n:=⟨_,fun n=>rfl⟩;simp only [cz] at pg hg1;rcases jy with ⟨nl,a,rfl⟩ | ⟨t,N,c0,rfl,ht,hN,jn⟩
  ·generalize ki:SA xs=R0 at *
   simp [-V,-y3,-y0,J,-MA,-mA,wB,uB,PA,AA,e1,e4,e5,e6,m4,m5,fg,fa,g1,hLi,hLn,hL0,xq,hm,gc,jp,h8,g46,rg,pg,hg1,ka,q3,lg,na,rh,si,hln,hwa,hma];refine KN _ (xs.set zz.toNat (x,⟨.ref 47 (s.next + 3) 3 0 ps.length ps.length,.no⟩)) ⟨.ref 47 (s.next + 3) 3 0 ps.length ps.length,.no⟩ ps ⟨⟨?_,?_,?_,?_,?_,?_,fr _ _ _ ?_ ?_ ?_ ?_ ?_,?_⟩,⟨s.next + 1,?_,?_⟩,?_,⟨kk,?_,?_⟩,?_,hgz _,.inr ⟨na,s.next + 3,rfl,by dsimp only; omega,by simp⟩,tn,hps⟩
   ·simp [e1]
   ·simp [e4]
   ·simp [e5]
   ·simp [e6]
   ·simp [m4]
   ·simp [m5]
   ·exact .inr ⟨47,s.next + 3,ps.length,ps,rfl,.inl rfl,by dsimp only; omega,by simp,tn,hps⟩
   ·dsimp only
    repeat (first | exact wD.refl _ _ _ | refine wD.set ?_ (.inr (by decide)) | refine wD.set ?_ (.inl (by omega)))
   ·dsimp only; omega
   ·simp [<- cz]
   ·right;intro N hN;simp [eV] at hN
    try omega
   ·dsimp only; omega
   ·simp
   ·simp [pK]
   ·simp
   ·simp
   ·first | (intro _; omega) | simp
   ·simp
  ·generalize ki:SA xs=R0 at *
   have h7:¬ t=7:=by omega
   simp [-V,-y3,-y0,J,-MA,-mA,wB,uB,PA,AA,e1,e4,e5,e6,m4,m5,fg,fa,g1,hLi,hLn,hL0,xq,hm,gc,jp,h8,g46,rg,pg,hg1,ka,q3,lg,na,rh,si,hln,hwa,hma,jn,ze,Cl.okMem,h7];refine KN _ (xs.set zz.toNat (x,⟨.ref 47 (s.next + 3) 3 0 ps.length ps.length,.no⟩)) ⟨.ref 47 (s.next + 3) 3 0 ps.length ps.length,.no⟩ ps ⟨⟨?_,?_,?_,?_,?_,?_,fr _ _ _ ?_ ?_ ?_ ?_ ?_,?_⟩,⟨s.next + 1,?_,?_⟩,?_,⟨kk,?_,?_⟩,?_,hgz _,.inr ⟨na,s.next + 3,rfl,by dsimp only; omega,by simp⟩,tn,hps⟩
   ·simp [e1]
   ·simp [e4]
   ·simp [e5]
   ·simp [e6]
   ·simp [m4]
   ·simp [m5]
   ·exact .inr ⟨47,s.next + 3,ps.length,ps,rfl,.inl rfl,by dsimp only; omega,by simp,tn,hps⟩
   ·dsimp only
    repeat (first | exact wD.refl _ _ _ | refine wD.set ?_ (.inr (by decide)) | refine wD.set ?_ (.inl (by omega)))
   ·dsimp only; omega
   ·simp [<- cz]
   ·right;intro N hN;simp [eV] at hN
    try omega
   ·dsimp only; omega
   ·simp
   ·simp [pK]
   ·simp
   ·simp
   ·first | (intro _; omega) | simp
   ·simp
section
theorem u8w (z:Int):u8 (IntKind.u8.wrap z):=by
 simp only [IntKind.wrap,IntKind.bits,IntKind.signed,u8];simp;omega
theorem K5 {α:Type} {xs:List α} {z:Nat} {q:α} (h:xs[z]?=some q):xs.set z q=xs:=by
 obtain ⟨hz,rfl⟩:=y9.1 h;exact List.set_getElem_self hz
theorem OwnP.pci {s:aA} {ps:List WP} {pc:qA} (h:OwnP s ps pc) (ho:∀ p∈ps,p.ok) (hs:ps.length * 3<=140737488355328):PcI s.mem s.next pc:=by
 rcases h with ⟨rfl,rfl⟩ | ⟨_,N,rfl,h2,h3⟩
 ·exact .inl ⟨false,[],.ex,rfl,.inr rfl,by simp,by simp⟩
 ·exact .inr ⟨47,N,_,ps,rfl,.inl rfl,h2,h3,ho,hs⟩
section
variable {r:RV} {cn:Bool} {cs:List xU} {L i:Nat} {xs:List Nd} {c:xU} {z:Nat} {x:dC} {pc:qA} {ps:List WP} {s:aA}
theorem sw0 (hc:c.ok) (hm:c.kind % 8=0) (h:ChT cn cs L i xs c z x pc ps s) (k:Ex->aA->Option RV) (hk:∀ s2 jh,iY cn cs L i jh s2->k .nrm s2=some r):ZB.run (wH jA rA) (HK jA rA) s k=some r:=by
 obtain ⟨⟨e1,e4,e5,e6,m4,m5,nds,nx⟩,⟨n7,e7,m7⟩,e8,⟨kk,e9,tb⟩,e67,hz,pcs,ok,sz⟩:=h;rw [hm] at e67;have mc:=nds.num _ (yj hz);have fg:=nds.row;have g:=CE hz 1 (by omega);have db:∀ v,mA false 1 (z * 5 + 1) (SA xs) (.int .u8 v) .no=some (SA (xs.set z ({ x with a:=v },pc))):=fun v=>TE hz 1 (by omega) _ .no rfl rfl
 obtain ⟨R1,sg⟩:∃ R1:Int->List qA,∀ v,SA (xs.set z ({ x with a:=v },pc))=R1 v:=⟨_,fun v=>rfl⟩;simp only [sg] at db;simp only [tI] at g;simp at g;generalize ki:SA xs=R0 at *
 simp only [pK] at m7;have h7:∀ n,¬ (7=13/\n=2):=by simp
 simp [ZB,-V,-y3,-y0,J,-MA,-mA,wB,uB,PA,AA,e7,m7,e8,e67,fg,g,db];refine hk _ (xs.set z ({ x with a:=IntKind.u8.wrap (IntKind.u8.wrap (x.a + c.a.tmod 5) - 2) },pc)) ⟨?_,?_,?_,?_,?_,?_,nds.upd hz ?_ ⟨mc.1,u8w _,mc.2.2⟩ ?_ ?_ ?_ (.inl rfl),?_⟩
 ·simp [e1]
 ·simp [e4]
 ·simp [e5]
 ·simp [e6]
 ·simp [m4]
 ·simp [m5]
 ·simp [sg]
 ·refine (pcs.pci ok sz).pres (ex:=none) ?_ (by dsimp only; omega) (by simp);exact wD.set (wD.refl _ _ _) (.inr (by decide))
 ·exact wD.set (wD.refl _ _ _) (.inr (by decide))
 ·dsimp only; omega
 ·dsimp only; omega
theorem sw1 (hc:c.ok) (hm:c.kind % 8=1) (h:ChT cn cs L i xs c z x pc ps s) (k:Ex->aA->Option RV) (hk:∀ s2 jh,iY cn cs L i jh s2->k .nrm s2=some r):ZB.run (wH jA rA) (HK jA rA) s k=some r:=by
 obtain ⟨⟨e1,e4,e5,e6,m4,m5,nds,nx⟩,⟨n7,e7,m7⟩,e8,⟨kk,e9,tb⟩,e67,hz,pcs,ok,sz⟩:=h;rw [hm] at e67;have mc:=nds.num _ (yj hz);have fg:=nds.row;have g:=CE hz 2 (by omega);have db:∀ v,mA false 1 (z * 5 + 2) (SA xs) (.int .u8 v) .no=some (SA (xs.set z ({ x with b:=v },pc))):=fun v=>TE hz 2 (by omega) _ .no rfl rfl
 obtain ⟨R1,sg⟩:∃ R1:Int->List qA,∀ v,SA (xs.set z ({ x with b:=v },pc))=R1 v:=⟨_,fun v=>rfl⟩;simp only [sg] at db;simp only [tI] at g;simp at g;generalize ki:SA xs=R0 at *
 simp only [pK] at m7;have h7:∀ n,¬ (7=13/\n=2):=by simp
 simp [ZB,-V,-y3,-y0,J,-MA,-mA,wB,uB,PA,AA,e7,m7,e8,e67,fg,g,db];refine hk _ (xs.set z ({ x with b:=IntKind.u8.wrap (IntKind.u8.wrap (x.b + c.b.tmod 5) - 2) },pc)) ⟨?_,?_,?_,?_,?_,?_,nds.upd hz ?_ ⟨mc.1,mc.2.1,u8w _,mc.2.2.2⟩ ?_ ?_ ?_ (.inl rfl),?_⟩
 ·simp [e1]
 ·simp [e4]
 ·simp [e5]
 ·simp [e6]
 ·simp [m4]
 ·simp [m5]
 ·simp [sg]
 ·refine (pcs.pci ok sz).pres (ex:=none) ?_ (by dsimp only; omega) (by simp);exact wD.set (wD.refl _ _ _) (.inr (by decide))
 ·exact wD.set (wD.refl _ _ _) (.inr (by decide))
 ·dsimp only; omega
 ·dsimp only; omega
theorem sw3 (hc:c.ok) (hm:c.kind % 8=3) (h:ChT cn cs L i xs c z x pc ps s) (k:Ex->aA->Option RV) (hk:∀ s2 jh,iY cn cs L i jh s2->k .nrm s2=some r):ZB.run (wH jA rA) (HK jA rA) s k=some r:=by
 obtain ⟨⟨e1,e4,e5,e6,m4,m5,nds,nx⟩,⟨n7,e7,m7⟩,e8,⟨kk,e9,tb⟩,e67,hz,pcs,ok,sz⟩:=h;rw [hm] at e67;have mc:=nds.num _ (yj hz);have fg:=nds.row;have g:=CE hz 3 (by omega);have db:∀ v,mA false 1 (z * 5 + 3) (SA xs) (.int .u8 v) .no=some (SA (xs.set z ({ x with c:=v },pc))):=fun v=>TE hz 3 (by omega) _ .no rfl rfl
 obtain ⟨R1,sg⟩:∃ R1:Int->List qA,∀ v,SA (xs.set z ({ x with c:=v },pc))=R1 v:=⟨_,fun v=>rfl⟩;simp only [sg] at db;simp only [tI] at g;simp at g;generalize ki:SA xs=R0 at *
 simp only [pK] at m7;have h7:∀ n,¬ (7=13/\n=2):=by simp
 simp [ZB,-V,-y3,-y0,J,-MA,-mA,wB,uB,PA,AA,e7,m7,e8,e67,fg,g,db];refine hk _ (xs.set z ({ x with c:=IntKind.u8.wrap (x.c + c.a) },pc)) ⟨?_,?_,?_,?_,?_,?_,nds.upd hz ?_ ⟨mc.1,mc.2.1,mc.2.2.1,u8w _⟩ ?_ ?_ ?_ (.inl rfl),?_⟩
 ·simp [e1]
 ·simp [e4]
 ·simp [e5]
 ·simp [e6]
 ·simp [m4]
 ·simp [m5]
 ·simp [sg]
 ·refine (pcs.pci ok sz).pres (ex:=none) ?_ (by dsimp only; omega) (by simp);exact wD.set (wD.refl _ _ _) (.inr (by decide))
 ·exact wD.set (wD.refl _ _ _) (.inr (by decide))
 ·dsimp only; omega
 ·dsimp only; omega
theorem sw2 (hc:c.ok) (hm:c.kind % 8=2) (h:ChT cn cs L i xs c z x pc ps s) (k:Ex->aA->Option RV) (hk:∀ s2 jh,iY cn cs L i jh s2->k .nrm s2=some r):ZB.run (wH jA rA) (HK jA rA) s k=some r:=by
 obtain ⟨⟨e1,e4,e5,e6,m4,m5,nds,nx⟩,⟨n7,e7,m7⟩,e8,⟨kk,e9,tb⟩,e67,hz,pcs,ok,sz⟩:=h;rw [hm] at e67;have mc:=nds.num _ (yj hz);have fg:=nds.row;have g:=CE hz 1 (by omega);have db:∀ v,mA false 1 (z * 5 + 1) (SA xs) (.int .u8 v) .no=some (SA (xs.set z ({ x with a:=v },pc))):=fun v=>TE hz 1 (by omega) _ .no rfl rfl
 obtain ⟨R1,sg⟩:∃ R1:Int->List qA,∀ v,SA (xs.set z ({ x with a:=v },pc))=R1 v:=⟨_,fun v=>rfl⟩;simp only [sg] at db;simp only [tI] at g;simp at g;generalize ki:SA xs=R0 at *
 simp only [pK] at m7;have h7:∀ n,¬ (7=13/\n=2):=by simp
 have h6:c.a.tmod 6=c.a % 6:=yu hc.2.2.1.1;have h60:0<=c.a % 6:=yI _ (by omega);simp [ZB,-V,-y3,-y0,J,-MA,-mA,wB,uB,PA,AA,h6,h60,kR,e7,m7,e8,e67,fg,g,db];refine hk _ (xs.set z ({ x with a:=IntKind.u8.wrap (((x.a % 2 ^ IntKind.u8.bits).toNat ^^^ (IntKind.u8.wrap (2 ^ shN IntKind.u8 (c.a % 6)) % 2 ^ IntKind.u8.bits).toNat:Nat):Int) },pc)) ⟨?_,?_,?_,?_,?_,?_,nds.upd hz ?_ ⟨mc.1,u8w _,mc.2.2⟩ ?_ ?_ ?_ (.inl rfl),?_⟩
 ·simp [e1]
 ·simp [e4]
 ·simp [e5]
 ·simp [e6]
 ·simp [m4]
 ·simp [m5]
 ·simp [sg]
 ·refine (pcs.pci ok sz).pres (ex:=none) ?_ (by dsimp only; omega) (by simp);exact wD.set (wD.refl _ _ _) (.inr (by decide))
 ·exact wD.set (wD.refl _ _ _) (.inr (by decide))
 ·dsimp only; omega
 ·dsimp only; omega
end
end
section
theorem wD.setX {n:Nat} {ex:Option Nat} {M M':Nat->Nat->Option (List qA)} (h:wD n ex M M') {t' n':Nat} {r:List qA} (hn:ex=some n'):wD n ex M (eY M' t' n' r):=fun t N ps ht hN hx hm=>by
 rw [rB,if_neg]
 ·exact h t N ps ht hN hx hm
 ·rintro ⟨rfl,rfl⟩;exact hx hn.symm
section
variable {r:RV} {cn:Bool} {cs:List xU} {L i:Nat} {xs:List Nd} {c:xU} {z:Nat} {x:dC} {pc:qA} {ps:List WP} {s:aA}
theorem iY.nothing {E:Nat->qA} {n:Nat} (h:iY cn cs L i xs s) (h1:(E 1).v=(s.env 1).v) (h4:(E 4).v=(s.env 4).v) (h5:(E 5).v=(s.env 5).v) (h6:(E 6).v=(s.env 6).v) (hn:s.next<=n):iY cn cs L i xs ⟨E,s.mem,n,s.obj,s.gh⟩:=by
 obtain ⟨e1,e4,e5,e6,m4,m5,nds,nx⟩:=h;exact ⟨h1.trans e1,h4.trans e4,h5.trans e5,h6.trans e6,m4,m5,⟨nds.len,nds.row,nds.num,fun q hq=>(nds.pc q hq).pres (ex:=none) (wD.refl _ _ _) hn (by simp),nds.dist⟩,by dsimp only; omega⟩
theorem sw6 (hc:c.ok) (hm:c.kind % 8=6) (h:ChT cn cs L i xs c z x pc ps s) (k:Ex->aA->Option RV) (hk:∀ s2 jh,iY cn cs L i jh s2->k .nrm s2=some r):ZB.run (wH jA rA) (HK jA rA) s k=some r:=by
 obtain ⟨ch,⟨n7,e7,m7⟩,e8,⟨kk,e9,tb⟩,e67,hz,pcs,ok,sz⟩:=h;have ez:=ch;obtain ⟨e1,e4,e5,e6,m4,m5,nds,nx⟩:=ch;rw [hm] at e67;have mc:=nds.num _ (yj hz);have fg:=nds.row;have g:=CE hz 4 (by omega);simp only [tI] at g;simp at g;simp only [pK] at m7;rcases pcs with ⟨rfl,rfl⟩ | ⟨na,N,rfl,hN,py⟩
 ·generalize ki:SA xs=R0 at *
  simp [ZB,-V,-y3,-y0,J,-MA,-mA,wB,uB,PA,AA,e7,m7,e8,e67,fg,g];refine hk _ xs (ez.nothing ?_ ?_ ?_ ?_ ?_)
  ·simp
  ·simp
  ·simp
  ·simp
  ·omega
 ·have zh:=tb na;have rh:0<ps.length:=List.length_pos_iff.2 na;have si:(0:Int)<ps.length:=by omega
  have hkli:(kk:Int)<ps.length:=by omega
  obtain ⟨p,hp⟩:∃ p,ps[kk]?=some p:=⟨_,y4 zh⟩;have db:=U5 (EI ps) (k:=kk) (c:=qE p) (by rw [yc,hp]; rfl) (j:=2) (by simp [qE]) (x:=.int .u8 c.b) rfl 1;have nu:sA ((ps.map qE).set kk ((qE p).set 2 (.int .u8 c.b)))=sA ((ps.set kk { p with flag:=c.b }).map qE):=by
   rw [List.map_set]; rfl
  rw [nu] at db;have tn:=ok p (yj hp);have fi:∀ q∈ps.set kk { p with flag:=c.b },q.ok:=fun q hq=>by
   rcases List.mem_or_eq_of_mem_set hq with hq | rfl
   ·exact ok q hq
   ·exact ⟨tn.1,tn.2.1,hc.2.2.2⟩
  generalize ki:SA xs=R0 at *
  generalize hR2:sA (ps.map qE)=R2 at *
  generalize hR3:sA ((ps.set kk { p with flag:=c.b }).map qE)=R3 at *
  have hN7:¬ (13=47/\2=N):=by simp
  simp [ZB,-V,-y3,-y0,J,-MA,-mA,wB,uB,PA,AA,e7,m7,e8,e9,e67,fg,g,rh,si,zh,hkli,py,db];refine hk _ (xs.set z (x,⟨.ref 47 N 3 0 ps.length ps.length,.no⟩)) ⟨?_,?_,?_,?_,?_,?_,nds.upd hz ?_ mc ?_ ?_ ?_ (.inl rfl),?_⟩
  ·simp [e1]
  ·simp [e4]
  ·simp [e5]
  ·simp [e6]
  ·simp [m4]
  ·simp [m5]
  ·rw [K5 hz];simp [fg,ki]
  ·refine .inr ⟨47,N,ps.length,ps.set kk { p with flag:=c.b },by simp,.inl rfl,by dsimp only; omega,by rw [hR3]; simp,fi,by simpa using sz⟩
  ·exact wD.setX (wD.refl _ _ _) rfl
  ·dsimp only; omega
  ·dsimp only; omega
theorem sw7 (hc:c.ok) (hm:c.kind % 8=7) (h:ChT cn cs L i xs c z x pc ps s) (k:Ex->aA->Option RV) (hk:∀ s2 jh,iY cn cs L i jh s2->k .nrm s2=some r):ZB.run (wH jA rA) (HK jA rA) s k=some r:=by
 obtain ⟨ch,⟨n7,e7,m7⟩,e8,⟨kk,e9,tb⟩,e67,hz,pcs,ok,sz⟩:=h;have ez:=ch;obtain ⟨e1,e4,e5,e6,m4,m5,nds,nx⟩:=ch;rw [hm] at e67;have mc:=nds.num _ (yj hz);have fg:=nds.row;have g:=CE hz 4 (by omega);simp only [tI] at g;simp at g;simp only [pK] at m7;rcases pcs with ⟨rfl,rfl⟩ | ⟨na,N,rfl,hN,py⟩
 ·generalize ki:SA xs=R0 at *
  simp [ZB,-V,-y3,-y0,J,-MA,-mA,wB,uB,PA,AA,e7,m7,e8,e67,fg,g];refine hk _ xs (ez.nothing ?_ ?_ ?_ ?_ ?_)
  ·simp
  ·simp
  ·simp
  ·simp
  ·omega
 ·have zh:=tb na;have rh:0<ps.length:=List.length_pos_iff.2 na;have si:(0:Int)<ps.length:=by omega
  have hkli:(kk:Int)<ps.length:=by omega
  obtain ⟨p,hp⟩:∃ p,ps[kk]?=some p:=⟨_,y4 zh⟩;have db:=U5 (EI ps) (k:=kk) (c:=qE p) (by rw [yc,hp]; rfl) (j:=1) (by simp [qE]) (x:=.int .u8 (IntKind.u8.wrap (p.ty + c.b))) rfl 1;have hgt:=row_get1 (EI ps) (k:=kk) (c:=qE p) (by rw [yc,hp]; rfl) (j:=1) (v:=.int .u8 p.ty) (by simp [qE]) 1;rw [wB] at hgt;have nu:sA ((ps.map qE).set kk ((qE p).set 1 (.int .u8 (IntKind.u8.wrap (p.ty + c.b)))))=sA ((ps.set kk { p with ty:=IntKind.u8.wrap (p.ty + c.b) }).map qE):=by
   rw [List.map_set]; rfl
  rw [nu] at db;have tn:=ok p (yj hp);have fi:∀ q∈ps.set kk { p with ty:=IntKind.u8.wrap (p.ty + c.b) },q.ok:=fun q hq=>by
   rcases List.mem_or_eq_of_mem_set hq with hq | rfl
   ·exact ok q hq
   ·exact ⟨tn.1,u8w _,tn.2.2⟩
  generalize ki:SA xs=R0 at *
  generalize hR2:sA (ps.map qE)=R2 at *
  generalize hR3:sA ((ps.set kk { p with ty:=IntKind.u8.wrap (p.ty + c.b) }).map qE)=R3 at *
  have hN7:¬ (13=47/\2=N):=by simp
  simp [ZB,-V,-y3,-y0,J,-MA,-mA,wB,uB,PA,AA,e7,m7,e8,e9,e67,fg,g,rh,si,zh,hkli,py,db,hgt];refine hk _ (xs.set z (x,⟨.ref 47 N 3 0 ps.length ps.length,.no⟩)) ⟨?_,?_,?_,?_,?_,?_,nds.upd hz ?_ mc ?_ ?_ ?_ (.inl rfl),?_⟩
  ·simp [e1]
  ·simp [e4]
  ·simp [e5]
  ·simp [e6]
  ·simp [m4]
  ·simp [m5]
  ·rw [K5 hz];simp [fg,ki]
  ·refine .inr ⟨47,N,ps.length,ps.set kk { p with ty:=IntKind.u8.wrap (p.ty + c.b) },by simp,.inl rfl,by dsimp only; omega,by rw [hR3]; simp,fi,by simpa using sz⟩
  ·exact wD.setX (wD.refl _ _ _) rfl
  ·dsimp only; omega
  ·dsimp only; omega
theorem sw4 (hc:c.ok) (hm:c.kind % 8=4) (h:ChT cn cs L i xs c z x pc ps s) (k:Ex->aA->Option RV) (hk:∀ s2 jh,iY cn cs L i jh s2->k .nrm s2=some r):ZB.run (wH jA rA) (HK jA rA) s k=some r:=by
 obtain ⟨ch,⟨n7,e7,m7⟩,e8,⟨kk,e9,tb⟩,e67,hz,pcs,ok,sz⟩:=h;have ez:=ch;obtain ⟨e1,e4,e5,e6,m4,m5,nds,nx⟩:=ch;rw [hm] at e67;have mc:=nds.num _ (yj hz);have fg:=nds.row;have g:=CE hz 4 (by omega);simp only [tI] at g;simp at g;simp only [pK] at m7;obtain ⟨oo,iy,hc3,hc4⟩:=hc;have jo:u8 (IntKind.u8.wrap (c.a.tdiv 12)):=u8w _;have hq:(⟨c.a,c.b,IntKind.u8.wrap (c.a.tdiv 12)⟩:WP).ok:=⟨hc3,hc4,jo⟩;generalize oh:IntKind.u8.wrap (c.a.tdiv 12)=fl at *
 have db:∀ n l y,(xs.set z (x,y))[z]?=some (x,y)->mA false 1 (z * 5 + 4) (SA (xs.set z (x,y))) (.ref 168 n 3 0 l l) .no=some (SA (xs.set z (x,⟨.ref 168 n 3 0 l l,.no⟩))):=fun n l y hy=>by
  rw [TE hy 4 (by omega) _ .no rfl rfl (q':=(x,⟨.ref 168 n 3 0 l l,.no⟩)),List.set_set]
 have dl:=(y9.1 hz).1;have room3:eB 3 1=true:=by decide
 rcases pcs with ⟨rfl,rfl⟩ | ⟨na,N,rfl,hN,py⟩
 ·have pg:∀ n l,mA false 1 (z * 5 + 4) (SA xs) (.ref 168 n 3 0 l l) .no=some (SA (xs.set z (x,⟨.ref 168 n 3 0 l l,.no⟩))):=fun n l=>TE hz 4 (by omega) _ .no rfl rfl
  obtain ⟨R1,sg⟩:∃ R1:Nat->Nat->List qA,∀ n l,SA (xs.set z (x,⟨.ref 168 n 3 0 l l,.no⟩))=R1 n l:=⟨_,fun n l=>rfl⟩;simp only [sg] at pg;generalize ki:SA xs=R0 at *
  simp [ZB,-V,-y3,-y0,J,-MA,-mA,wB,uB,PA,AA,e7,m7,e8,e67,fg,g,room3,pg,oh];refine hk _ (xs.set z (x,⟨.ref 168 (s.next + 6) 3 0 1 1,.no⟩)) ⟨?_,?_,?_,?_,?_,?_,nds.upd hz ?_ mc ?_ ?_ ?_ (.inr fun M hM=>?_),?_⟩
  ·simp [e1]
  ·simp [e4]
  ·simp [e5]
  ·simp [e6]
  ·simp [m4]
  ·simp [m5]
  ·simp [sg]
  ·refine .inr ⟨168,s.next + 6,1,[⟨c.a,c.b,fl⟩],rfl,.inr (.inl rfl),by dsimp only; omega,by simp [qE],by simpa using hq,by simp⟩
  ·exact wD.set (wD.set (wD.refl _ _ _) (.inl (by omega))) (.inr (by decide))
  ·dsimp only; omega
  ·simp [eV] at hM; omega
  ·dsimp only; omega
 ·by_cases h8:ps.length<8
  ·have h8i:(ps.length:Int)<8:=by omega
   have zh:=gU nds hz (t:=47) (N:=N) rfl;have hkl':(SA xs).map (qA.kill 47 N)=SA (xs.set z (x,⟨.undef,.no⟩)):=by
    rw [zh];simp [qA.kill_mk,AV.kill,AV.kill0]
   have pg:∀ n,mA false 1 (z * 5 + 4) ((SA xs).map (qA.kill 47 N)) (.ref 168 n 3 0 (ps.length + 1) (ps.length + 1)) .no=some (SA (xs.set z (x,⟨.ref 168 n 3 0 (ps.length + 1) (ps.length + 1),.no⟩))):=fun n=>by
    rw [hkl'];exact db n (ps.length + 1) _ (List.getElem?_set_self dl)
   obtain ⟨R1,sg⟩:∃ R1:Nat->List qA,∀ n,SA (xs.set z (x,⟨.ref 168 n 3 0 (ps.length + 1) (ps.length + 1),.no⟩))=R1 n:=⟨_,fun n=>rfl⟩;simp only [sg] at pg;have q3:=EI ps;have ze:aE (sA (ps.map qE)) 3 0 ps.length=some (ps.map qE):=by
    have:=GG (EI ps) (SN ps);simpa using this
   have ka:eB 3 (ps.length + 1)=true:=by rw [EA]; omega
   have sh:sA (ps.map qE++[[AV.int .u8 c.a,AV.int .u8 c.b,AV.int .u8 fl]])=sA ((ps++[(⟨c.a,c.b,fl⟩:WP)]).map qE):=by simp [qE]
   generalize ki:SA xs=R0 at *
   generalize hR2:sA (ps.map qE)=R2 at *
   have rh:0<ps.length:=List.length_pos_iff.2 na;simp [ZB,-V,-y3,-y0,J,-MA,-mA,wB,uB,PA,AA,e7,m7,e8,e67,fg,g,pg,oh,h8,h8i,py,ze,ka,q3,Cl.okMem];refine hk _ (xs.set z (x,⟨.ref 168 (s.next + 6) 3 0 (ps.length + 1) (ps.length + 1),.no⟩)) ⟨?_,?_,?_,?_,?_,?_,nds.upd hz ?_ mc ?_ ?_ ?_ (.inr fun M hM=>?_),?_⟩
   ·simp [e1]
   ·simp [e4]
   ·simp [e5]
   ·simp [e6]
   ·simp [m4]
   ·simp [m5]
   ·simp [sg]
   ·refine .inr ⟨168,s.next + 6,ps.length + 1,ps++[⟨c.a,c.b,fl⟩],by simp,.inr (.inl rfl),by dsimp only; omega,by rw [<- sh]; simp,?_,by simp; omega⟩;intro p hp;rcases yt.1 hp with hp | hp
    ·exact ok p hp
    ·simp at hp;rw [hp];exact hq
   ·exact wD.set (wD.set (wD.kill (wD.refl _ _ _) rfl) (.inl (by omega))) (.inr (by decide))
   ·dsimp only; omega
   ·simp [eV] at hM; omega
   ·dsimp only; omega
  ·have h8i:¬ (ps.length:Int)<8:=by omega
   generalize ki:SA xs=R0 at *
   simp [ZB,-V,-y3,-y0,J,-MA,-mA,wB,uB,PA,AA,e7,m7,e8,e67,fg,g,h8,h8i];refine hk _ xs (ez.nothing ?_ ?_ ?_ ?_ ?_)
   ·simp
   ·simp
   ·simp
   ·simp
   ·omega
end
end
section
theorem iX {sz:Nat} {L:List (List AV)} (h:lB sz L=true) (hf:SD L=true) {a b:Nat} (zf:a + b<=L.length):aE (sA L) sz (a * sz) b=some ((L.drop a).take b):=by
 have h1:=GG h hf;have hl:=HG h;unfold aE at h1 ⊢;split at h1
 case isFalse=>cases h1
 rename_i hc;injection h1 with h1;have ab:a * sz + b * sz<=(sA L).length:=by
  rw [hl,<- Nat.add_mul];exact yX _ zf
 rw [if_pos ⟨ab,hc.2⟩];congr 1;refine List.ext_getElem? fun i=>?_
 by_cases hi:i<b
 ·have e1:=congrArg (·[a + i]?) h1;simp only [yc] at e1;rw [List.getElem?_range (by omega)] at e1;rw [yc,List.getElem?_range hi,yO,if_pos hi,yT,<- e1];simp only [yA,yG,Nat.add_mul]
 ·rw [yW (by simp; omega),yW (by simp; omega)]
section
variable {r:RV} {cn:Bool} {cs:List xU} {L i:Nat} {xs:List Nd} {c:xU} {z:Nat} {x:dC} {pc:qA} {ps:List WP} {s:aA}
theorem sw5 (hc:c.ok) (hm:c.kind % 8=5) (h:ChT cn cs L i xs c z x pc ps s) (k:Ex->aA->Option RV) (hk:∀ s2 jh,iY cn cs L i jh s2->k .nrm s2=some r):ZB.run (wH jA rA) (HK jA rA) s k=some r:=by
 obtain ⟨ch,⟨n7,e7,m7⟩,e8,⟨kk,e9,tb⟩,e67,hz,pcs,ok,sz⟩:=h;have ez:=ch;obtain ⟨e1,e4,e5,e6,m4,m5,nds,nx⟩:=ch;rw [hm] at e67;have mc:=nds.num _ (yj hz);have fg:=nds.row;have g:=CE hz 4 (by omega);simp only [tI] at g;simp at g;simp only [pK] at m7;have dl:=(y9.1 hz).1;rcases pcs with ⟨rfl,rfl⟩ | ⟨na,N,rfl,hN,py⟩
 ·generalize ki:SA xs=R0 at *
  simp [ZB,-V,-y3,-y0,J,-MA,-mA,wB,uB,PA,AA,e7,m7,e8,e67,fg,g];refine hk _ xs (ez.nothing ?_ ?_ ?_ ?_ ?_)
  ·simp
  ·simp
  ·simp
  ·simp
  ·omega
 ·have zh:=tb na;have rh:0<ps.length:=List.length_pos_iff.2 na;have si:(0:Int)<ps.length:=by omega
  have hwk:=ZA (i:=kk);have hkle:kk<=ps.length:=by omega
  have xj:(0:Int)<=(kk:Int) + 1:=by omega
  have kt:=gU nds hz (t:=47) (N:=N) rfl;have hkill':(SA xs).map (qA.kill 47 N)=SA (xs.set z (x,⟨.undef,.no⟩)):=by
   rw [kt];simp [qA.kill_mk,AV.kill,AV.kill0]
  have pg:∀ n l,mA false 1 (z * 5 + 4) ((SA xs).map (qA.kill 47 N)) (.ref 193 n 3 0 l l) .no=some (SA (xs.set z (x,⟨.ref 193 n 3 0 l l,.no⟩))):=fun n l=>by
   have hs:=TE (show (xs.set z (x,(⟨.undef,.no⟩:qA)))[z]?=some (x,⟨.undef,.no⟩) from List.getElem?_set_self dl) 4 (by omega) (.ref 193 n 3 0 l l) .no rfl (q':=(x,⟨.ref 193 n 3 0 l l,.no⟩)) rfl;rw [hkill',hs,List.set_set]
  obtain ⟨R1,sg⟩:∃ R1:Nat->Nat->List qA,∀ n l,SA (xs.set z (x,⟨.ref 193 n 3 0 l l,.no⟩))=R1 n l:=⟨_,fun n l=>rfl⟩;simp only [sg] at pg;have q1:=EI (ps.take kk);have q2:=EI (ps.drop (kk + 1));have hre1:aE (sA (ps.map qE)) 3 0 kk=some ((ps.take kk).map qE):=by
   have:=iX (EI ps) (SN ps) (a:=0) (b:=kk) (by simp; omega);simpa [List.map_take] using this
  have hre2:aE (sA (ps.map qE)) 3 ((kk + 1) * 3) (ps.length - (kk + 1))=some ((ps.drop (kk + 1)).map qE):=by
   have:=iX (EI ps) (SN ps) (a:=kk + 1) (b:=ps.length - (kk + 1)) (by simp; omega);rw [this,List.map_drop,yx (by simp)]
  have ka:eB 3 (kk + (ps.length - (kk + 1)))=true:=by rw [EA]; omega
  have ng:eB 3 kk=true:=by rw [EA]; omega
  have fi:∀ q∈ps.take kk++ps.drop (kk + 1),q.ok:=fun q hq=>by
   rcases yt.1 hq with hq | hq
   ·exact ok q (List.mem_of_mem_take hq)
   ·exact ok q (List.mem_of_mem_drop hq)
  have hrr:sA ((ps.take kk).map qE++(ps.drop (kk + 1)).map qE)=sA ((ps.take kk++ps.drop (kk + 1)).map qE):=by rw [yS]
  have up:(ps.take kk).length=kk:=by rw [yC]; omega
  have rk:(ps.drop (kk + 1)).length=ps.length - (kk + 1):=List.length_drop;have ja:(ps.take kk++ps.drop (kk + 1)).length=kk + (ps.length - (kk + 1)):=by rw [yl,up,rk]
  generalize hT:ps.take kk=T at *
  generalize hD:ps.drop (kk + 1)=D at *
  generalize ki:SA xs=R0 at *
  generalize hR2:sA (ps.map qE)=R2 at *
  by_cases xp:ps.length=kk + 1
  ·have hD0:D=[]:=yM (by omega);subst hD0;simp only [List.append_nil] at fi;simp [ZB,-V,-y3,-y0,J,-MA,-mA,wB,uB,PA,AA,e7,m7,e8,e9,e67,fg,g,pg,rh,si,hkle,xj,hwk,py,xp,hre1,ng,q1,Cl.okMem,WJ];refine hk _ (xs.set z (x,⟨.ref 193 (s.next + 7) 3 0 (kk) (kk),.no⟩)) ⟨?_,?_,?_,?_,?_,?_,nds.upd hz ?_ mc ?_ ?_ ?_ (.inr fun M hM=>?_),?_⟩
   ·simp [e1]
   ·simp [e4]
   ·simp [e5]
   ·simp [e6]
   ·simp [m4]
   ·simp [m5]
   ·simp [sg]
   ·refine .inr ⟨193,s.next + 7,kk,T,by rw [up],.inr (.inr rfl),by dsimp only; omega,by simp,fi,by rw [up]; omega⟩
   ·exact wD.set (wD.set (wD.kill (wD.refl _ _ _) rfl) (.inl (by omega))) (.inr (by decide))
   ·dsimp only; omega
   ·simp [eV] at hM; omega
   ·dsimp only; omega
  ·have h1:kk + 1<=ps.length:=by omega
   simp [ZB,-V,-y3,-y0,J,-MA,-mA,wB,uB,PA,AA,e7,m7,e8,e9,e67,fg,g,pg,rh,si,hkle,xj,hwk,py,xp,h1,hre1,hre2,ka,q1,q2,rk,Cl.okMem,WJ];refine hk _ (xs.set z (x,⟨.ref 193 (s.next + 7) 3 0 (kk + (ps.length - (kk + 1))) (kk + (ps.length - (kk + 1))),.no⟩)) ⟨?_,?_,?_,?_,?_,?_,nds.upd hz ?_ mc ?_ ?_ ?_ (.inr fun M hM=>?_),?_⟩
   ·simp [e1]
   ·simp [e4]
   ·simp [e5]
   ·simp [e6]
   ·simp [m4]
   ·simp [m5]
   ·simp [sg]
   ·refine .inr ⟨193,s.next + 7,kk + (ps.length - (kk + 1)),T++D,by rw [ja],.inr (.inr rfl),by dsimp only; omega,by rw [<- hrr]; simp,fi,by rw [ja]; omega⟩
   ·exact wD.set (wD.set (wD.kill (wD.refl _ _ _) rfl) (.inl (by omega))) (.inr (by decide))
   ·dsimp only; omega
   ·simp [eV] at hM; omega
   ·dsimp only; omega
theorem sw_ev (hc:c.ok) (h:ChT cn cs L i xs c z x pc ps s) (k:Ex->aA->Option RV) (hk:∀ s2 jh,iY cn cs L i jh s2->k .nrm s2=some r):ZB.run (wH jA rA) (HK jA rA) s k=some r:=by
 have h0:=yI c.kind (b:=8) (by omega);have h1:=yL c.kind (b:=8) (by omega);by_cases m0:c.kind % 8=0
 ·exact sw0 hc m0 h k hk
 by_cases m1:c.kind % 8=1
 ·exact sw1 hc m1 h k hk
 by_cases m2:c.kind % 8=2
 ·exact sw2 hc m2 h k hk
 by_cases m3:c.kind % 8=3
 ·exact sw3 hc m3 h k hk
 by_cases m4:c.kind % 8=4
 ·exact sw4 hc m4 h k hk
 by_cases m5:c.kind % 8=5
 ·exact sw5 hc m5 h k hk
 by_cases m6:c.kind % 8=6
 ·exact sw6 hc m6 h k hk
 ·exact sw7 hc (by omega) h k hk
end
end
theorem rowRaw_v {R R':List qA} (h:R.map (·.v)=R'.map (·.v)) (sz off len:Nat):jH R sz off len=jH R' sz off len:=by
 have hl:R.length=R'.length:=by simpa using congrArg List.length h
 unfold jH;rw [hl];split
 ·congr 1;refine yq fun i _=>?_
  rw [List.map_take,List.map_take,List.map_drop,List.map_drop,h]
 ·rfl
theorem frz_rowV {s:aA} {t n sz c:Nat} {L:List (List AV)} {R:List qA} (h:lB sz L=true) (hm:s.mem t n=some R) (hv:R.map (·.v)=(sA L).map (·.v)) (hf:(L.map fun c=>c.map (AV.frz1 s)).flatten.all AV.free0=true):AV.frz0 s (.ref t n sz 0 L.length c)=.sl false (L.map fun c=>c.map (AV.frz1 s)):=by
 have hr:jH R sz 0 L.length=some L:=by
  rw [rowRaw_v hv];exact xG fun c hc=>by simpa using y5.1 h c hc
 have zd:R.all (fun x=>x.v.free0)=(sA L).all (fun x=>x.v.free0):=by
  have e:∀ q:List qA,q.all (fun x=>x.v.free0)=(q.map (·.v)).all AV.free0:=fun q=>by rw [List.all_map]; rfl
  rw [e,e,hv]
 simp only [AV.frz0,hm,V,rZ,zd];by_cases sa:(sA L).all (fun x=>x.v.free0)=true
 ·rw [if_pos sa,hr];have:(L.map fun c=>c.map (AV.frz1 s))=L.map id:=yq fun c hc=>by
   have:c.map (AV.frz1 s)=c.map id:=yq fun v hv=>EY (by
    have:=y5.1 sa ⟨v,.no⟩ (yy.2 ⟨v,List.mem_flatten.2 ⟨c,hc,hv⟩,rfl⟩);exact this)
   rwa [List.map_id] at this
  rw [this,List.map_id]
 ·rw [if_neg sa];simp only [U1,hr,V];rw [if_pos hf]
def ndC (q:Nd):List AV:=(tI q).map (·.v)
theorem H4:∀ xs:List Nd,(SA xs).map (·.v)=(sA (xs.map ndC)).map (·.v)
 | []=>rfl
 | q :: r=>by
  have:=H4 r;unfold SA sA at this ⊢;simp only [List.flatMap_cons,yS,yg,yz];rw [this];simp [ndC]
def dC.sized (x:dC):Prop:=x.parts.length * 3<=140737488355328
theorem nd_frz2 {L:Nat} {s:aA} {xs:List Nd} (h:E2 L s.mem s.next xs):∀ ys:List Nd,(∀ q∈ys,q∈xs)->∃ l':List dC,(∀ x∈l',x.ok/\x.sized)/\((ys.map ndC).map fun c=>c.map (AV.frz1 s))=l'.map gD
 | [],_=>⟨[],by simp,rfl⟩
 | q :: r,hq=>by
  obtain ⟨l',h1,h2⟩:=nd_frz2 h r fun b hb=>hq b (by simp [hb])
  have hm:=hq q (by simp);have hn:=h.num q hm;have hx:∃ x':dC,(x'.ok/\x'.sized)/\(ndC q).map (AV.frz1 s)=gD x':=by
   rcases h.pc q hm with ⟨nl,ps,a,e,_,h3,h4⟩ | ⟨t,N,c,ps,e,_,_,h3,h4,h5⟩
   ·refine ⟨⟨q.1.k,q.1.a,q.1.b,q.1.c,nl,ps⟩,⟨⟨hn.1,hn.2.1,hn.2.2.1,hn.2.2.2,by dsimp only; omega,h3⟩,by unfold dC.sized; dsimp only; omega⟩,?_⟩;simp [ndC,tI,e,AV.frz1,gD]
   ·refine ⟨⟨q.1.k,q.1.a,q.1.b,q.1.c,false,ps⟩,⟨⟨hn.1,hn.2.1,hn.2.2.1,hn.2.2.2,by dsimp only; omega,h4⟩,by unfold dC.sized; dsimp only; omega⟩,?_⟩;have:=GG (EI ps) (SN ps);simp only [yo] at this;simp [ndC,tI,e,AV.frz1,gD,h3,this]
  obtain ⟨x',h3,h4⟩:=hx;refine ⟨x' :: l',?_,?_⟩
  ·intro y hy;rcases yf.1 hy with rfl | hy
   ·exact h3
   ·exact h1 y hy
  ·simp only [yg,h4,h2]
def ChE2 (n:Nat) (e:Ex) (s:aA):Prop:=e=.ret/\(s.env 4).v=.ptr 4 1 0/\((n=0/\s.mem 4 1=some [⟨.sl false [],.no⟩])\/∃ xs,s.mem 4 1=some [⟨.ref 13 2 5 0 n n,.no⟩]/\E2 n s.mem s.next xs)
section
variable {dn cn:Bool} {l:List dC} (hx:∀ x∈l,x.ok/\x.sized) (hl:l.length * 32<=140737488355328) {cs:List xU} (hc:∀ c∈cs,c.ok) (bd:cs.length<=9223372036854775807)
include dn cn l hx hl cs hc bd
theorem AZ (k:Ex->aA->Option RV) (r:RV) (hk:∀ e s',ChE2 l.length e s'->k e s'=some r):lE.code.run (wH jA rA) (HK jA rA) (aA.init [.agg (mF dn l),.sl cn (cs.map nV)] none) k=some r:=by
 have ng:eB 32 0=true:=by decide
 by_cases na:l=[]
 ·subst na;simp [lE,mF,-V,-y3,-y0,J,ng];refine xA 0 (fun _ s=>(s.env 1).v=.sl cn (cs.map nV)/\(s.env 4).v=.ptr 4 1 0/\(s.env 5).v=.ptr 5 2 0/\(s.env 6).v=.int .i64 0/\s.mem 4 1=some [⟨.sl true [],.ex⟩]/\s.mem 5 2=some [⟨.sl false [],.no⟩])
   (fun e s=>e=.exit 0/\(s.env 4).v=.ptr 4 1 0/\(s.env 5).v=.ptr 5 2 0/\s.mem 4 1=some [⟨.sl true [],.ex⟩]/\s.mem 5 2=some [⟨.sl false [],.no⟩]) (fun i hi s k h ih hk=>?_) _ _ ?_ (fun e s h=>?_)
  ·obtain ⟨e1,e4,e5,e6,m4,m5⟩:=h;refine tA ?_;by_cases h0:cs=[]
   ·subst h0;simp at e1;simp [EC,-V,-y3,-y0,J,e1,e5,e6,m5];exact hk _ _ ⟨rfl,by simp [e4],by simp [e5],m4,m5⟩
   ·have h1:(0:Int)<cs.length:=by have:=List.length_pos_iff.2 h0; omega
    have h2:=List.length_pos_iff.2 h0;simp [EC,-V,-y3,-y0,J,e1,e5,e6,m5,h1,h2];exact hk _ _ ⟨rfl,by simp [e4],by simp [e5],m4,m5⟩
  ·refine ⟨?_,?_,?_,?_,?_,?_⟩ <;> simp
  ·obtain ⟨rfl,e4,e5,m4,m5⟩:=h;simp [-V,-y3,-y0,J,e4,e5,m4,m5];exact hk _ _ ⟨rfl,by simp [e4],.inl ⟨by simp,by simp⟩⟩
 ·have rh:=List.length_pos_iff.2 na;have si:(0:Int)<l.length:=by omega
  have lg:l.isEmpty=false:=by simpa using na
  have ka:eB 32 l.length=true:=by rw [EA]; omega
  have ge:lB 5 (l.map gD)=true:=cC _ _ _ fun _=>rfl
  simp [lE,mF,-V,-y3,-y0,J,ka,ge,lg,na];refine xA cs.length (fun i s=>∃ xs,iY cn cs l.length i xs s)
   (fun e s=>e=.exit 0/\∃ xs,iY cn cs l.length cs.length xs s) (fun i hi s k h ih hk=>?_) _ _ ?_ (fun e s h=>?_)
  ·obtain ⟨xs,h⟩:=h;by_cases da:i<cs.length
   ·refine chg_head da bd hc rh (by omega) h k (fun s' oj c z x pc ps kk xr hT tb=>sw_ev (hc c xr) hT kk tb) (fun s' oj h'=>ih da s' ⟨oj,h'⟩)
   ·have tg:i=cs.length:=by omega
    have fa:¬ (i:Int)<cs.length:=by omega
    refine tA ?_;have e1:=h.e1;have e6:=h.e6;simp [EC,-V,-y3,-y0,J,e1,e6,fa];rw [<- tg];refine hk _ _ ⟨rfl,xs,?_⟩;rw [<- tg];exact h.nothing (by simp) (by simp) (by simp) (by simp) (by omega)
  ·refine ⟨l.map fun x=>(x,⟨.sl x.pn (x.parts.map qE),.no⟩),⟨?_,?_,?_,?_,?_,?_,⟨by simp,?_,?_,?_,?_⟩,?_⟩⟩
   ·simp
   ·simp
   ·simp
   ·simp
   ·simp
   ·simp
   ·have:sA (l.map gD)=SA (l.map fun x=>(x,⟨.sl x.pn (x.parts.map qE),.no⟩)):=by
     unfold sA SA;rw [List.map_flatten,y0,List.flatMap_map];rfl
    simp [this]
   ·intro q hq;obtain ⟨x,ew,rfl⟩:=yy.1 hq;have:=(hx x ew).1;exact ⟨this.1,this.2.1,this.2.2.1,this.2.2.2.1⟩
   ·intro q hq;obtain ⟨x,ew,rfl⟩:=yy.1 hq;exact .inl ⟨x.pn,x.parts,.no,rfl,.inl rfl,(hx x ew).1.2.2.2.2.2,(hx x ew).2⟩
   ·intro j k a b N _ ha _ bz _;rw [yc] at ha;obtain ⟨x,_,rfl⟩:=yh.1 ha;simp [eV] at bz
   ·simp
  ·obtain ⟨rfl,xs,e1,e4,e5,e6,m4,m5,nds,nx⟩:=h;simp [-V,-y3,-y0,J,e4,e5,m4,m5];refine hk _ _ ⟨rfl,by simp [e4],.inr ⟨xs,by simp,?_⟩⟩;exact ⟨nds.len,by simp [nds.row],nds.num,fun q hq=>(nds.pc q hq).pres (ex:=none) (wD.set (wD.refl _ _ _) (.inr (by decide))) (by dsimp only; omega) (by simp),nds.dist⟩
theorem b3:∃ r:RV,(∃ l':List dC,(∀ x∈l',x.ok/\x.sized)/\l'.length=l.length/\r=(.agg (mF false l'),none))/\wH jA rA 69 [.agg (mF dn l),.sl cn (cs.map nV)] none=some r:=by
 refine evC_reach allT_det lE rfl rfl (F:=ChE2 l.length) (AZ hx hl hc bd) fun e s' h=>?_
 have nd:lE.res=[.cell 4 true 1]:=rfl;obtain ⟨rfl,e4,⟨ug,m4⟩ | ⟨xs,m4,nds⟩⟩:=h
 ·exact ⟨_,by simp [KN,nd,gS,e4,m4,MA,AV.frz,AV.frz0,SV,AV.free,AV.free0,KU]; rfl,[],by simp,by simp [ug],rfl⟩
 ·obtain ⟨l',h1,h2⟩:=nd_frz2 nds xs fun q hq=>hq
  have ge:lB 5 (xs.map ndC)=true:=cC _ _ _ fun _=>rfl
  have g2:=frz_rowV (c:=l.length) ge nds.row (H4 xs) (by rw [h2]; simp [gD,AV.free0]);rw [yo,nds.len,h2] at g2;have f1:AV.frz s' (.agg [.ref 13 2 5 0 l.length l.length])=.agg [.sl false (l'.map gD)]:=by simp only [AV.frz,yg,yn,g2]
  exact ⟨_,by simp [KN,nd,gS,e4,m4,MA,f1,SV,AV.free,AV.free0,KU,-AV.frz,-AV.frz0]; rfl,l',h1,by have:=congrArg List.length h2; simp only [yo] at this; rw [<- this,nds.len],rfl⟩
theorem P6:∃ r:RV,(∃ l':List dC,(∀ x∈l',x.ok)/\r=(.agg (mF false l'),none))/\wH jA rA 69 [.agg (mF dn l),.sl cn (cs.map nV)] none=some r:=by
 obtain ⟨r,⟨l',h1,_,h2⟩,h3⟩:=b3 (dn:=dn) (cn:=cn) hx hl hc bd;exact ⟨r,⟨l',fun x hx=>(h1 x hx).1,h2⟩,h3⟩
end
end Go.Proofs.YtbnlmgncbgaepaaGreat
