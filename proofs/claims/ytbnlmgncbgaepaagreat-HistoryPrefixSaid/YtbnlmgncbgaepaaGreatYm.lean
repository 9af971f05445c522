/- A part of the proof. -/
import Derived.Test.YtbnlmgncbgaepaaGreatYk
import Derived.Test.YtbnlmgncbgaepaaGreatYl
set_option linter.all false
set_option maxRecDepth 100000
set_option maxHeartbeats 8000000
open Option renaming bind_some → V, map_eq_some_iff → yf, map_some → yx
open List renaming range_succ → J, map_map → y0, getElem?_eq_getElem → y4, all_eq_true → y5, getElem_mem → y6, drop_eq_getElem_cons → y9, getElem?_eq_some_iff → yb, getElem?_map → yc, mem_cons → yh, map_cons → yj, mem_of_getElem? → yk, map_congr_left → ym, length_map → yo, length_append → yp, map_nil → yt, mem_append → yw, length_take → yz, mem_map → yA, getElem_of_mem → yB, take_of_length_le → yD, length_cons → yE, flatten_cons → yF, getElem?_append_left → yG, map_take → yM, append_nil → yN, getElem?_eq_none → yP, getElem?_drop → yR, eq_nil_of_length_eq_zero → yS, map_append → yU, getElem?_take → yV, getElem?_append_right → yW
open Int renaming toNat_lt → y3, tmod_eq_emod_of_nonneg → yy, emod_nonneg → yL, emod_lt_of_pos → yQ
open Nat renaming le_refl → yn, zero_add → yH, mul_le_mul_right → Y00
namespace Go.Proofs.YtbnlmgncbgaepaaGreat
open Go
def HB:C:=.block 2 (oR [oS 93 (.bin .eql false (.t 67) (.c (.int .u8 0))),oM 92 93] (oD 92 (.reg [oM 94 8,oM 95 8,oK 96 95,oF 97 1 96,oL 98 97,oF 99 2 7,oLr 100 7 1 99,oS 101 (.bin .rem false (.t 100) (.c (.int .u8 5))),oB 102 .add 98 101,oS 103 (.bin .sub false (.t 102) (.c (.int .u8 2))),oK 104 94,oF 105 1 104,oW 105 103]) (oR [oS 107 (.bin .eql false (.t 67) (.c (.int .u8 1))),oM 106 107] (oD 106 (.reg [oM 108 8,oM 109 8,oK 110 109,oF 111 2 110,oL 112 111,oF 113 3 7,oLr 114 7 1 113,oS 115 (.bin .rem false (.t 114) (.c (.int .u8 5))),oB 116 .add 112 115,oS 117 (.bin .sub false (.t 116) (.c (.int .u8 2))),oK 118 108,oF 119 2 118,oW 119 117]) (oR [oS 121 (.bin .eql false (.t 67) (.c (.int .u8 2))),oM 120 121] (oD 120 (.reg [oM 122 8,oM 123 8,oK 124 123,oF 125 1 124,oL 126 125,oF 127 2 7,oLr 128 7 1 127,oS 129 (.bin .rem false (.t 128) (.c (.int .u8 6))),oS 130 (.bin .shl false (.c (.int .u8 1)) (.t 129)),oB 131 .xor 126 130,oK 132 122,oF 133 1 132,oW 133 131]) (oR [oS 135 (.bin .eql false (.t 67) (.c (.int .u8 3))),oM 134 135] (oD 134 (.reg [oM 136 8,oM 137 8,oK 138 137,oF 139 3 138,oL 140 139,oF 141 2 7,oLr 142 7 1 141,oB 143 .add 140 142,oK 144 136,oF 145 3 144,oW 145 143]) (oR [oS 147 (.bin .eql false (.t 67) (.c (.int .u8 4))),oM 146 147] (oD 146 (oR [oM 148 8,oK 149 148,oF 150 4 149,oL 151 150,oH 152 151,oC 153 .lss 152 8] (oD 153 (.reg [oM 154 8,oM 155 8,oK 156 155,oF 157 4 156,oL 158 157,oF 159 2 7,oLr 160 7 1 159,oF 161 3 7,oLr 162 7 1 161,oF 163 2 7,oLr 164 7 1 163,oS 165 (.bin .quo false (.t 164) (.c (.int .u8 12))),oS 166 (.build zzg [(0,(1,(.t 160))),(1,(1,(.t 162))),(2,(1,(.t 165)))]),oS 167 (.bsl zzg 1 [(0,(.t 166))]),oS 168 (.appm .any 165 3 3 (.t 158) (.t 167)),oK 169 154,oF 170 4 169,oW 170 168]) .skip)) (oR [oS 172 (.bin .eql false (.t 67) (.c (.int .u8 5))),oM 171 172] (oD 171 (oR [oM 173 8,oK 174 173,oF 175 4 174,oL 176 175,oH 177 176,oC 178 .gtr 177 0] (oD 178 (.reg [oM 179 8,oM 180 8,oK 181 180,oF 182 4 181,oL 183 182,oM 184 9,oS 185 (.slc false 3 (.t 183) .none (.some (.t 184)) .none),oM 186 8,oK 187 186,oF 188 4 187,oL 189 188,oM 190 9,oC 191 .add 190 1,oS 192 (.slc false 3 (.t 189) (.some (.t 191)) .none .none),oS 193 (.appm .any 165 3 3 (.t 185) (.t 192)),oK 194 179,oF 195 4 194,oW 195 193]) .skip)) (oR [oS 197 (.bin .eql false (.t 67) (.c (.int .u8 6))),oM 196 197] (oD 196 (oR [oM 198 8,oK 199 198,oF 200 4 199,oL 201 200,oH 202 201,oC 203 .gtr 202 0] (oD 203 (.reg [oM 204 8,oK 205 204,oF 206 4 205,oL 207 206,oM 208 9,oF 209 3 7,oLr 210 7 1 209,oI 211 3 207 208,oF 212 2 211,oW 212 210]) .skip)) (oR [oM 68 8,oK 69 68,oF 70 4 69,oL 71 70,oH 72 71,oC 73 .gtr 72 0] (oD 73 (.reg [oM 74 8,oK 75 74,oF 76 4 75,oL 77 76,oM 78 9,oM 79 8,oK 80 79,oF 81 4 80,oL 82 81,oM 83 9,oI 84 3 82 83,oF 85 1 84,oL 86 85,oF 87 3 7,oLr 88 7 1 87,oB 89 .add 86 88,oI 90 3 77 78,oF 91 1 90,oW 91 89]) .skip))))))))))))))))
theorem chg_L1:cC=.seq (.seq (.reg [⟨(.some 15),(.mv (.t 6)),.none⟩,⟨(.some 16),(.mv (.t 1)),.none⟩,⟨(.some 17),(.len .false (.t 16)),.none⟩,⟨(.some 18),(.bin .lss .false (.t 15) (.t 17)),.none⟩,⟨(.some 19),(.mv (.t 18)),.none⟩,⟨(.some 20),(.faddr 0 (.t 5)),(.some (19,.true))⟩,⟨(.some 21),(.load .any .false 1 (.t 20)),(.some (19,.true))⟩,⟨(.some 22),(.len .false (.t 21)),(.some (19,.true))⟩,⟨(.some 23),(.bin .gtr .false (.t 22) (.c (.int .i64 0))),(.some (19,.true))⟩,⟨(.some 24),(.pick (.t 19) (.t 23) (.c (.bool .false))),.none⟩]) (.cond (.t 24) .skip (.exit 0))) (.seq (.block 1 (.seq (.reg [⟨(.some 27),(.mv (.t 1)),.none⟩,⟨(.some 28),(.mv (.t 6)),.none⟩,⟨(.some 29),(.iaddr 4 (.t 27) (.t 28)),.none⟩,⟨(.some 30),(.load .any .true 4 (.t 29)),.none⟩,⟨(.some 7),(.alloc [(.int .u8 0),(.int .u8 0),(.int .u8 0),(.int .u8 0)]),.none⟩,⟨.none,(.store .any .true 4 (.t 7) (.t 30)),.none⟩]) (.seq (.reg [⟨(.some 31),(.faddr 0 (.t 5)),.none⟩,⟨(.some 32),(.load (.root 5) .false 1 (.t 31)),.none⟩,⟨(.some 33),(.faddr 1 (.t 7)),.none⟩,⟨(.some 34),(.load (.root 7) .false 1 (.t 33)),.none⟩,⟨(.some 35),(.conv (.some .i64) (.t 34)),.none⟩,⟨(.some 36),(.faddr 0 (.t 5)),.none⟩,⟨(.some 37),(.load (.root 5) .false 1 (.t 36)),.none⟩,⟨(.some 38),(.len .false (.t 37)),.none⟩,⟨(.some 39),(.bin .rem .false (.t 35) (.t 38)),.none⟩,⟨(.some 40),(.iaddr 5 (.t 32) (.t 39)),.none⟩,⟨(.some 8),(.mv (.t 40)),.none⟩]) (.seq (.reg [⟨(.some 41),(.mv (.t 8)),.none⟩,⟨(.some 42),(.bsl [(.int .u8 0),(.int .u8 0),(.int .u8 0)] 0 []),.none⟩,⟨(.some 43),(.mv (.t 8)),.none⟩,⟨(.some 44),(.nilchk (.t 43)),.none⟩,⟨(.some 45),(.faddr 4 (.t 44)),.none⟩,⟨(.some 46),(.load .any .false 1 (.t 45)),.none⟩,⟨(.some 47),(.appf .any 165 3 3 (.t 42) (.t 46)),.none⟩,⟨(.some 48),(.nilchk (.t 41)),.none⟩,⟨(.some 49),(.faddr 4 (.t 48)),.none⟩,⟨.none,(.store .any .false 1 (.t 49) (.t 47)),.none⟩]) (.seq (.reg [⟨(.some 9),(.mv (.c (.int .i64 0))),.none⟩]) (.seq (.seq (.reg [⟨(.some 50),(.mv (.t 8)),.none⟩,⟨(.some 51),(.nilchk (.t 50)),.none⟩,⟨(.some 52),(.faddr 4 (.t 51)),.none⟩,⟨(.some 53),(.load .any .false 1 (.t 52)),.none⟩,⟨(.some 54),(.len .false (.t 53)),.none⟩,⟨(.some 55),(.bin .gtr .false (.t 54) (.c (.int .i64 0))),.none⟩]) (.cond (.t 55) (.reg [⟨(.some 56),(.faddr 2 (.t 7)),.none⟩,⟨(.some 57),(.load (.root 7) .false 1 (.t 56)),.none⟩,⟨(.some 58),(.conv (.some .i64) (.t 57)),.none⟩,⟨(.some 59),(.mv (.t 8)),.none⟩,⟨(.some 60),(.nilchk (.t 59)),.none⟩,⟨(.some 61),(.faddr 4 (.t 60)),.none⟩,⟨(.some 62),(.load .any .false 1 (.t 61)),.none⟩,⟨(.some 63),(.len .false (.t 62)),.none⟩,⟨(.some 64),(.bin .rem .false (.t 58) (.t 63)),.none⟩,⟨(.some 9),(.mv (.t 64)),.none⟩]) .skip)) (.seq (.reg [⟨(.some 65),(.faddr 0 (.t 7)),.none⟩,⟨(.some 66),(.load .any .false 1 (.t 65)),.none⟩,⟨(.some 67),(.bin .rem .false (.t 66) (.c (.int .u8 8))),.none⟩]) HB))))))) (.reg [⟨(.some 25),(.mv (.t 6)),.none⟩,⟨(.some 26),(.bin .add .false (.t 25) (.c (.int .i64 1))),.none⟩,⟨(.some 6),(.mv (.t 26)),.none⟩])):=rfl
structure G1 where
 kind:Int
 node:Int
 a:Int
 b:Int
def OY (c:G1):List AV:=[.int .u8 c.kind,.int .u8 c.node,.int .u8 c.a,.int .u8 c.b]
def G1.ok (c:G1):Prop:=u8 c.kind/\u8 c.node/\u8 c.a/\u8 c.b
def uK (c:G1):List qA:=[⟨.int .u8 c.kind,.no⟩,⟨.int .u8 c.node,.no⟩,⟨.int .u8 c.a,.no⟩,⟨.int .u8 c.b,.no⟩]
abbrev Nd:=jC × qA
def NH (q:Nd):List qA:=[⟨.int .u8 q.1.k,.no⟩,⟨.int .u8 q.1.a,.no⟩,⟨.int .u8 q.1.b,.no⟩,⟨.int .u8 q.1.c,.no⟩,q.2]
def PA (xs:List Nd):List qA:=xs.flatMap NH
theorem zR:∀ xs:List Nd,(PA xs).length=xs.length * 5
 | []=>rfl
 | q :: r=>by
  have:=zR r;unfold PA at this ⊢;rw [List.flatMap_cons,yp,this,yE];simp [NH];omega
section
variable {xs:List Nd} {z:Nat}
include xs z
theorem wO {q:Nd} (h:xs[z]?=some q):PA xs=PA (xs.take z)++(NH q++PA (xs.drop (z + 1)))/\(PA (xs.take z)).length=z * 5:=by
 obtain ⟨hz,rfl⟩:=yb.1 h;refine ⟨?_,by rw [zR,yz]; omega⟩;have e:xs=xs.take z++(xs[z] :: xs.drop (z + 1)):=by rw [<- y9 hz,List.take_append_drop]
 refine (congrArg PA e).trans ?_;unfold PA;rw [List.flatMap_append,List.flatMap_cons]
theorem OE {q:Nd} (h:xs[z]?=some q) (o:Nat) (ho:o<5):(PA xs)[z * 5 + o]?=(NH q)[o]?:=by
 obtain ⟨h1,h2⟩:=wO h;rw [h1,yW (by omega),h2,Nat.add_sub_cancel_left,yG (by simp [NH]; omega)]
theorem ndsRow_set {q q':Nd} (h:xs[z]?=some q) (o:Nat) (ho:o<5) (y:qA) (hq:(NH q).set o y=NH q'):(PA xs).set (z * 5 + o) y=PA (xs.set z q'):=by
 obtain ⟨h1,h2⟩:=wO h;have hz:=(yb.1 h).1;have h':(xs.set z q')[z]?=some q':=List.getElem?_set_self hz;obtain ⟨g1,g2⟩:=wO h';rw [h1,g1,List.set_append_right _ _ (by omega),h2,Nat.add_sub_cancel_left,List.set_append_left _ _ (by simp [NH]; omega),hq];rw [List.take_set_of_le (yn z),List.drop_set_of_lt (Nat.lt_succ_self z)]
theorem kE {q q':Nd} (h:xs[z]?=some q) (o:Nat) (ho:o<5) (v:AV) (a:An) (hv:v.leaf=true) (hq:(NH q).set o ⟨v,a⟩=NH q'):mA false 1 (z * 5 + o) (PA xs) v a=some (PA (xs.set z q')):=by
 have hz:=(yb.1 h).1;have hl:=zR xs;simp only [mA,hv];rw [<- ndsRow_set h o ho _ hq];simp;omega
end
def iW (x:qA):Option Nat:=match x.v with
 | .ref _ M _ _ _ _=>some M
 | _=>none
def PcI (M:Nat->Nat->Option (List qA)) (n:Nat) (x:qA):Prop :=
 (∃ (nl:Bool) (ps:List KP) (a:An),x=⟨.sl nl (ps.map GD),a⟩/\(a=.no\/a=.ex)/\(∀ p∈ps,p.ok)/\ps.length * 3<=140737488355328) ∨
 ∃ (t N c:Nat) (ps:List KP),x=⟨.ref t N 3 0 ps.length c,.no⟩/\(t=47\/t=168\/t=193)/\N<n/\M t N=some (sA (ps.map GD))/\(∀ p∈ps,p.ok)/\ps.length * 3<=140737488355328
def KC (n:Nat) (ex:Option Nat) (M M':Nat->Nat->Option (List qA)):Prop:=∀ (t N:Nat) (ps:List KP),(t=47\/t=168\/t=193)->N<n->some N≠ex->M t N=some (sA (ps.map GD))->M' t N=some (sA (ps.map GD))
theorem KC.refl (n:Nat) (ex:Option Nat) (M:Nat->Nat->Option (List qA)):KC n ex M M:=fun _ _ _ _ _ _ h=>h
theorem KC.set {n:Nat} {ex:Option Nat} {M M':Nat->Nat->Option (List qA)} (h:KC n ex M M') {t' n':Nat} {r:List qA} (hn:n<=n'\/¬ (t'=47\/t'=168\/t'=193)):KC n ex M (XV M' t' n' r):=fun t N ps ht hN hx hm=>by
 rw [DA,if_neg]
 ·exact h t N ps ht hN hx hm
 ·rintro ⟨rfl,rfl⟩;rcases hn with hn | hn
  ·omega
  ·exact hn ht
theorem IN (ps:List KP):nD (ps.map GD)=true:=KK GD ps fun p=>by simp [GD,AV.free0]
theorem bI (ps:List KP):gB 3 (ps.map GD)=true:=tC _ _ _ fun _=>rfl
theorem KC.kill {n:Nat} {ex:Option Nat} {M M':Nat->Nat->Option (List qA)} (h:KC n ex M M') {t' n':Nat} (hn:ex=some n'):KC n ex M (pV t' n' M'):=fun t N ps ht hN hx hm=>by
 rw [tB,if_neg,h t N ps ht hN hx hm]
 ·simp only [yx,dY (IN ps)]
 ·rintro ⟨rfl,rfl⟩;exact hx hn.symm
theorem PcI.pres {M M':Nat->Nat->Option (List qA)} {n n':Nat} {x:qA} (h:PcI M n x) {ex:Option Nat} (hp:KC n ex M M') (hn:n<=n') (hx:∀ N,iW x=some N->some N≠ex):PcI M' n' x:=by
 rcases h with h | ⟨t,N,c,ps,rfl,h1,h2,h3,h4,h5⟩
 ·exact .inl h
 ·exact .inr ⟨t,N,c,ps,rfl,h1,by omega,hp t N ps h1 h2 (hx N rfl) h3,h4,h5⟩
structure X3 (L:Nat) (M:Nat->Nat->Option (List qA)) (n:Nat) (xs:List Nd):Prop where
 len:xs.length=L
 row:M 13 2=some (PA xs)
 num:∀ q∈xs,u8 q.1.k/\u8 q.1.a/\u8 q.1.b/\u8 q.1.c
 pc:∀ q∈xs,PcI M n q.2
 dist:∀ (j k:Nat) (a b:Nd) (N:Nat),j≠k->xs[j]?=some a->xs[k]?=some b->iW a.2=some N->iW b.2=some N->False
theorem X3.upd {L:Nat} {M M':Nat->Nat->Option (List qA)} {n n':Nat} {xs:List Nd} (h:X3 L M n xs) {z:Nat} {q q':Nd} (hz:xs[z]?=some q) (ka:M' 13 2=some (PA (xs.set z q'))) (sc:u8 q'.1.k/\u8 q'.1.a/\u8 q'.1.b/\u8 q'.1.c) (af:PcI M' n' q'.2) (hp:KC n (iW q.2) M M') (hn:n<=n') (wb:iW q'.2=iW q.2\/∀ N,iW q'.2=some N->n<=N):X3 L M' n' (xs.set z q'):=by
 have xj:=(yb.1 hz).1;have hother:∀ (k:Nat) (b:Nd),k≠z->xs[k]?=some b->PcI M' n' b.2:=fun k b hk hb=>(h.pc b (yk hb)).pres hp hn fun N hN e=>h.dist k z b q N hk hb hz hN e.symm
 have ci:∀ (k:Nat) (b:Nd),(xs.set z q')[k]?=some b->(k=z/\b=q')\/(k≠z/\xs[k]?=some b):=fun k b hb=>by
  rw [List.getElem?_set] at hb;by_cases e:z=k
  ·rw [if_pos e,if_pos xj] at hb;injection hb with hb;exact .inl ⟨e.symm,hb.symm⟩
  ·rw [if_neg e] at hb;exact .inr ⟨fun h=>e h.symm,hb⟩
 have oe:∀ (b:Nd) (N:Nat),b∈xs->iW b.2=some N->N<n:=fun b N hb hN=>by
  rcases h.pc b hb with ⟨nl,ps,a,e,_⟩ | ⟨t,N',c,ps,e,_,h2,_⟩
  ·rw [e] at hN; simp [iW] at hN
  ·rw [e] at hN; simp [iW] at hN; omega
 refine ⟨by simp [h.len],ka,fun b hb=>?_,fun b hb=>?_,fun j k a b N hjk ha hb ay hNb=>?_⟩
 ·obtain ⟨k,hk,rfl⟩:=yB hb;rcases ci k _ (y4 hk) with ⟨_,e⟩ | ⟨_,e⟩
  ·rw [e]; exact sc
  ·exact h.num _ (yk e)
 ·obtain ⟨k,hk,rfl⟩:=yB hb;rcases ci k _ (y4 hk) with ⟨_,e⟩ | ⟨zc,e⟩
  ·rw [e]; exact af
  ·exact hother k _ zc e
 ·rcases ci j a ha with ⟨hj,rfl⟩ | ⟨hj,pu⟩
  ·rcases ci k b hb with ⟨hk,rfl⟩ | ⟨hk,ua⟩
   ·omega
   ·rcases wb with e | e
    ·exact h.dist z k q b N (by omega) hz ua (by rw [<- e]; exact ay) hNb
    ·have:=e N ay;have:=oe b N (yk ua) hNb;omega
  ·rcases ci k b hb with ⟨hk,rfl⟩ | ⟨hk,ua⟩
   ·rcases wb with e | e
    ·exact h.dist j z a q N (by omega) pu hz ay (by rw [<- e]; exact hNb)
    ·have:=e N hNb;have:=oe a N (yk pu) ay;omega
   ·exact h.dist j k a b N hjk pu ua ay hNb
theorem dV {L:Nat} {M:Nat->Nat->Option (List qA)} {n:Nat} {xs:List Nd} (h:X3 L M n xs) {z:Nat} {q:Nd} (hz:xs[z]?=some q) {t N:Nat} (hN:iW q.2=some N):(PA xs).map (qA.kill t N)=PA (xs.set z (q.1,q.2.kill t N)):=by
 have xj:=(yb.1 hz).1;have e1:xs.map (fun b:Nd=>((b.1,b.2.kill t N):Nd))=xs.set z (q.1,q.2.kill t N):=by
  refine List.ext_getElem? fun k=>?_
  rw [yc,List.getElem?_set];by_cases e:z=k
  ·subst e;rw [if_pos rfl,if_pos xj,hz];rfl
  ·rw [if_neg e];cases hk:xs[k]? with
   | none=>rfl
   | some b =>
    have hb:b.2.kill t N=b.2:=by
     rcases h.pc b (yk hk) with ⟨nl,ps,a,e',_⟩ | ⟨t',N',c,ps,e',_⟩
     ·rw [e'];show (⟨AV.kill t N (.sl nl (ps.map GD)),a⟩:qA)=_;rfl
     ·have oa:N'≠N:=fun e2=>h.dist k z b q N (fun e3=>e e3.symm) hk hz (by rw [e',e2]; rfl) hN
      rw [e'];simp [qA.kill_mk,AV.kill,AV.kill0,oa]
    simp only [yx,hb]
 rw [<- e1];unfold PA;rw [List.map_flatMap,List.flatMap_map];congr 1
structure sZ (cn:Bool) (cs:List G1) (L i:Nat) (xs:List Nd) (s:pA):Prop where
 e1:(s.env 1).v=.sl cn (cs.map OY)
 e4:(s.env 4).v=.ptr 4 1 0
 e5:(s.env 5).v=.ptr 5 2 0
 e6:(s.env 6).v=.int .i64 i
 m4:s.mem 4 1=some [⟨.sl true [],.ex⟩]
 m5:s.mem 5 2=some [⟨.ref 13 2 5 0 L L,.no⟩]
 nds:X3 L s.mem s.next xs
 nx:2<s.next
def OwnP (s:pA) (ps:List KP) (pc:qA):Prop:=(ps=[]/\pc=⟨.sl false [],.ex⟩)\/(ps≠[]/\∃ N,pc=⟨.ref 47 N 3 0 ps.length ps.length,.no⟩/\N<s.next/\s.mem 47 N=some (sA (ps.map GD)))
structure ChT (cn:Bool) (cs:List G1) (L i:Nat) (xs:List Nd) (c:G1) (z:Nat) (x:jC) (pc:qA) (ps:List KP) (s:pA):Prop where
 ch:sZ cn cs L i xs s
 e7:∃ n7,(s.env 7).v=.ptr 7 n7 0/\s.mem 7 n7=some (uK c)
 e8:(s.env 8).v=.ptr 13 2 (z * 5)
 e9:∃ kk:Nat,(s.env 9).v=.int .i64 kk/\(ps≠[]->kk<ps.length)
 e67:(s.env 67).v=.int .u8 (c.kind % 8)
 hz:xs[z]?=some (x,pc)
 pcs:OwnP s ps pc
 ok:∀ p∈ps,p.ok
 sz:ps.length * 3<=140737488355328
theorem chg_head {r:RV} {cn:Bool} {cs:List G1} {L i:Nat} (hi:i<cs.length) (ad:cs.length<=9223372036854775807) (la:∀ c∈cs,c.ok) (hL0:0<L) (hL1:L<=140737488355328) {xs:List Nd} {s:pA} (h:sZ cn cs L i xs s) (k:Ex->pA->Option RV)
  (hk:∀ s' cj c z x pc ps (kk:Ex->pA->Option RV),c∈cs->ChT cn cs L i cj c z x pc ps s'->(∀ s2 ah,sZ cn cs L i ah s2->kk .nrm s2=some r)->HB.run (UF gA eA) (KJ gA eA) s' kk=some r)
  (ih:∀ s' cj,sZ cn cs L (i + 1) cj s'->TH gA eA cC s' k=some r):TH gA eA cC s k=some r:=by
 obtain ⟨e1,e4,e5,e6,m4,m5,nds,nx⟩:=h;refine tA ?_;have ga:(i:Int)<cs.length:=by omega
 have g1:(cs.map OY)[i]?=some (OY cs[i]):=by simp [hi]
 have ng:=ZA (i:=i);have kr:=y6 hi;have hco:=la _ kr;generalize cs[i]=c at *
 obtain ⟨⟨k1,k2⟩,⟨n1,n2⟩,⟨a1,a2⟩,b1,b2⟩:=hco;simp only [OY] at g1;have kq:IntKind.i64.wrap c.node=c.node:=IntWalk.i64_in _ (by omega);have hwa:IntKind.i64.wrap c.a=c.a:=IntWalk.i64_in _ (by omega);have hm:c.node.tmod L=c.node % L:=yy (by omega);have ec:=yL c.node (b:=(L:Int)) (by omega);have bo:=yQ c.node (b:=(L:Int)) (by omega);have h8:c.kind.tmod 8=c.kind % 8:=yy (by omega);have hLi:(0:Int)<L:=by omega
 have hLn:¬ L=0:=by omega
 generalize c.node % (L:Int)=zz at *
 have xj:zz.toNat<xs.length:=by rw [nds.len]; omega
 obtain ⟨q,hq⟩:∃ q,xs[zz.toNat]?=some q:=⟨_,y4 xj⟩;obtain ⟨x,pc⟩:=q;have sc:=nds.num _ (yk hq);have g46:(PA xs)[zz.toNat * 5 + 4]?=some pc:=OE hq 4 (by omega);have cont:∀ (s2:pA) (ah:List Nd) (E:Nat->qA),sZ cn cs L i ah s2->s2.env=E->sZ cn cs L (i + 1) ah ⟨putE (putE (putE E 25 ⟨.int .i64 i,(E 6).a⟩) 26 ⟨.int .i64 ((i + 1:Nat):Int),.no⟩) 6 ⟨.int .i64 ((i + 1:Nat):Int),.no⟩,s2.mem,s2.next + 1,s2.obj,s2.gh⟩:=fun s2 ah E h he=>by
  subst he;obtain ⟨e1,e4,e5,e6,m4,m5,nds,nx⟩:=h;exact ⟨by simp [e1],by simp [e4],by simp [e5],by simp,m4,m5,⟨nds.len,nds.row,nds.num,fun q hq=>(nds.pc q hq).pres (ex:=none) (KC.refl _ _ _) (by dsimp only; omega) (by simp),nds.dist⟩,by dsimp only; omega⟩
 have XN:∀ (s':pA) (cj:List Nd) (pc':qA) (ps:List KP),ChT cn cs L i cj c zz.toNat x pc' ps s'->HB.run (UF gA eA) (KJ gA eA) s' (blkK 1 (seqK (UF gA eA) (KJ gA eA) (.reg [⟨some 25,.mv (.t 6),none⟩,⟨some 26,.bin .add false (.t 25) (.c (.int .i64 1)),none⟩,⟨some 6,.mv (.t 26),none⟩]) (PJ (TH gA eA) cC k)))=some r:=fun s' cj pc' ps hT=>by
  refine hk s' cj c _ x pc' ps _ kr hT (fun s2 ah h2=>?_);have e6:=h2.e6;simp [-V,-y3,-y0,J,e6,ng];exact ih _ _ (cont s2 ah _ h2 rfl)
 rw [chg_L1];have af:=nds.pc _ (yk hq);have xp:∃ ps:List KP,(∀ p∈ps,p.ok)/\ps.length * 3<=140737488355328/\((∃ nl a,pc=⟨.sl nl (ps.map GD),a⟩)\/∃ t N c0,pc=⟨.ref t N 3 0 ps.length c0,.no⟩/\(t=47\/t=168\/t=193)/\N<s.next/\s.mem t N=some (sA (ps.map GD))):=by
  rcases af with ⟨nl,ps,a,h1,_,h3,h4⟩ | ⟨t,N,c0,ps,h1,h2,h3,h4,h5,h6⟩
  ·exact ⟨ps,h3,h4,.inl ⟨nl,a,h1⟩⟩
  ·exact ⟨ps,h5,h6,.inr ⟨t,N,c0,h1,h2,h3,h4⟩⟩
 obtain ⟨ps,zl,hps,dx⟩:=xp;have xf:=nds.row;have kw:=kE (q':=(x,⟨.sl false [],.ex⟩)) hq 4 (by omega) (.sl false []) .ex rfl rfl;have mg:∀ n,mA false 1 (zz.toNat * 5 + 4) (PA xs) (.ref 47 n 3 0 ps.length ps.length) .no=some (PA (xs.set zz.toNat (x,⟨.ref 47 n 3 0 ps.length ps.length,.no⟩))):=fun n=>kE hq 4 (by omega) _ .no rfl rfl
 have hgz:∀ y,(xs.set zz.toNat (x,y))[zz.toNat]?=some (x,y):=fun y=>List.getElem?_set_self xj
 have hg0:=OE (hgz ⟨.sl false [],.ex⟩) 4 (by omega);have hg1:∀ n,(PA (xs.set zz.toNat (x,⟨.ref 47 n 3 0 ps.length ps.length,.no⟩)))[zz.toNat * 5 + 4]?=some ⟨.ref 47 n 3 0 ps.length ps.length,.no⟩:=fun n=>OE (hgz _) 4 (by omega)
 have hg0':(PA (xs.set zz.toNat (x,⟨.sl false [],.ex⟩)))[zz.toNat * 5 + 4]?=some ⟨.sl false [],.ex⟩:=hg0;clear hg0;have ja:uB 3 ps.length=true:=by rw [TA]; omega
 have kg:uB 3 0=true:=by decide
 have jg:sD (sA (ps.map GD)) 3 0 ps.length=some (ps.map GD):=by
  have:=nG (bI ps) (IN ps);simpa using this
 have q3:=bI ps;have fr:∀ (n':Nat) (M':Nat->Nat->Option (List qA)) (y:qA),PcI M' n' y->KC s.next (iW pc) s.mem M'->s.next<=n'->M' 13 2=some (PA (xs.set zz.toNat (x,y)))->(iW y=iW pc\/∀ N,iW y=some N->s.next<=N)->X3 L M' n' (xs.set zz.toNat (x,y)):=fun n' M' y h1 h2 h3 h4 h5=>nds.upd hq h4 sc h1 h2 h3 h5
 by_cases oa:ps=[]
 ·have hpc0:∀ M' n',PcI M' n' ⟨.sl false [],.ex⟩:=fun M' n'=>.inl ⟨false,[],.ex,rfl,.inr rfl,by simp,by simp⟩
  rcases dx with ⟨nl,a,rfl⟩ | ⟨t,N,c0,rfl,ht,hN,xl⟩
  ·subst oa;simp at g46;generalize gk:PA xs=R0 at *
   generalize ug:PA (xs.set zz.toNat (x,⟨.sl false [],.ex⟩))=R1 at *
   simp [-V,-y3,-y0,J,-wB,-mA,iB,kB,HA,JA,e1,e4,e5,e6,m4,m5,xf,ga,g1,hLi,hLn,hL0,kq,hm,ec,bo,h8,g46,ng,kw,hg0',kg];refine XN _ (xs.set zz.toNat (x,⟨.sl false [],.ex⟩)) ⟨.sl false [],.ex⟩ [] ⟨⟨?_,?_,?_,?_,?_,?_,fr _ _ _ ?_ ?_ ?_ ?_ ?_,?_⟩,⟨s.next + 1,?_,?_⟩,?_,⟨0,?_,?_⟩,?_,hgz _,.inl ⟨rfl,rfl⟩,zl,hps⟩
   ·simp [e1]
   ·simp [e4]
   ·simp [e5]
   ·simp [e6]
   ·simp [m4]
   ·simp [m5]
   ·exact hpc0 _ _
   ·dsimp only
    repeat (first | exact KC.refl _ _ _ | refine KC.set ?_ (.inr (by decide)) | refine KC.set ?_ (.inl (by omega)))
   ·dsimp only; omega
   ·simp [ug]
   ·right;intro N hN;simp [iW] at hN
    try omega
   ·dsimp only; omega
   ·simp
   ·simp [uK]
   ·simp
   ·simp
   ·first | (intro _; omega) | simp
   ·simp
  ·subst oa;simp at g46 xl jg;generalize gk:PA xs=R0 at *
   generalize ug:PA (xs.set zz.toNat (x,⟨.sl false [],.ex⟩))=R1 at *
   have h7:¬ t=7:=by omega
   simp [-V,-y3,-y0,J,-wB,-mA,iB,kB,HA,JA,e1,e4,e5,e6,m4,m5,xf,ga,g1,hLi,hLn,hL0,kq,hm,ec,bo,h8,g46,ng,kw,hg0',kg,xl,jg,Cl.okMem,h7];refine XN _ (xs.set zz.toNat (x,⟨.sl false [],.ex⟩)) ⟨.sl false [],.ex⟩ [] ⟨⟨?_,?_,?_,?_,?_,?_,fr _ _ _ ?_ ?_ ?_ ?_ ?_,?_⟩,⟨s.next + 1,?_,?_⟩,?_,⟨0,?_,?_⟩,?_,hgz _,.inl ⟨rfl,rfl⟩,zl,hps⟩
   ·simp [e1]
   ·simp [e4]
   ·simp [e5]
   ·simp [e6]
   ·simp [m4]
   ·simp [m5]
   ·exact hpc0 _ _
   ·dsimp only
    repeat (first | exact KC.refl _ _ _ | refine KC.set ?_ (.inr (by decide)) | refine KC.set ?_ (.inl (by omega)))
   ·dsimp only; omega
   ·simp [ug]
   ·right;intro N hN;simp [iW] at hN
    try omega
   ·dsimp only; omega
   ·simp
   ·simp [uK]
   ·simp
   ·simp
   ·first | (intro _; omega) | simp
   ·simp
 ·have bg:ps.isEmpty=false:=by simpa using oa
  have oh:0<ps.length:=List.length_pos_iff.2 oa;have ii:(0:Int)<ps.length:=by omega
  have uu:¬ ps.length=0:=by omega
  have dw:c.a.tmod ps.length=c.a % ps.length:=yy (by omega);have ak:=yL c.a (b:=(ps.length:Int)) (by omega);have jc:=yQ c.a (b:=(ps.length:Int)) (by omega);obtain ⟨kk,ub⟩:∃ kk:Nat,c.a % (ps.length:Int)=kk:=⟨(c.a % (ps.length:Int)).toNat,by omega⟩;rw [ub] at dw jc;obtain ⟨R1,iy⟩:∃ R1:Nat->List qA,∀ n,PA (xs.set zz.toNat (x,⟨.ref 47 n 3 0 ps.length ps.length,.no⟩))=R1 n:=⟨_,fun n=>rfl⟩;simp only [iy] at mg hg1;rcases dx with ⟨nl,a,rfl⟩ | ⟨t,N,c0,rfl,ht,hN,xl⟩
  ·generalize gk:PA xs=R0 at *
   simp [-V,-y3,-y0,J,-wB,-mA,iB,kB,HA,JA,e1,e4,e5,e6,m4,m5,xf,ga,g1,hLi,hLn,hL0,kq,hm,ec,bo,h8,g46,ng,mg,hg1,ja,q3,bg,oa,oh,ii,uu,hwa,dw];refine XN _ (xs.set zz.toNat (x,⟨.ref 47 (s.next + 3) 3 0 ps.length ps.length,.no⟩)) ⟨.ref 47 (s.next + 3) 3 0 ps.length ps.length,.no⟩ ps ⟨⟨?_,?_,?_,?_,?_,?_,fr _ _ _ ?_ ?_ ?_ ?_ ?_,?_⟩,⟨s.next + 1,?_,?_⟩,?_,⟨kk,?_,?_⟩,?_,hgz _,.inr ⟨oa,s.next + 3,rfl,by dsimp only; omega,by simp⟩,zl,hps⟩
   ·simp [e1]
   ·simp [e4]
   ·simp [e5]
   ·simp [e6]
   ·simp [m4]
   ·simp [m5]
   ·exact .inr ⟨47,s.next + 3,ps.length,ps,rfl,.inl rfl,by dsimp only; omega,by simp,zl,hps⟩
   ·dsimp only
    repeat (first | exact KC.refl _ _ _ | refine KC.set ?_ (.inr (by decide)) | refine KC.set ?_ (.inl (by omega)))
   ·dsimp only; omega
   ·simp [<- iy]
   ·right;intro N hN;simp [iW] at hN
    try omega
   ·dsimp only; omega
   ·simp
   ·simp [uK]
   ·simp
   ·simp
   ·first | (intro _; omega) | simp
   ·simp
  ·generalize gk:PA xs=R0 at *
   have h7:¬ t=7:=by omega
   simp [-V,-y3,-y0,J,-wB,-mA,iB,kB,HA,JA,e1,e4,e5,e6,m4,m5,xf,ga,g1,hLi,hLn,hL0,kq,hm,ec,bo,h8,g46,ng,mg,hg1,ja,q3,bg,oa,oh,ii,uu,hwa,dw,xl,jg,Cl.okMem,h7];refine XN _ (xs.set zz.toNat (x,⟨.ref 47 (s.next + 3) 3 0 ps.length ps.length,.no⟩)) ⟨.ref 47 (s.next + 3) 3 0 ps.length ps.length,.no⟩ ps ⟨⟨?_,?_,?_,?_,?_,?_,fr _ _ _ ?_ ?_ ?_ ?_ ?_,?_⟩,⟨s.next + 1,?_,?_⟩,?_,⟨kk,?_,?_⟩,?_,hgz _,.inr ⟨oa,s.next + 3,rfl,by dsimp only; omega,by simp⟩,zl,hps⟩
   ·simp [e1]
   ·simp [e4]
   ·simp [e5]
   ·simp [e6]
   ·simp [m4]
   ·simp [m5]
   ·exact .inr ⟨47,s.next + 3,ps.length,ps,rfl,.inl rfl,by dsimp only; omega,by simp,zl,hps⟩
   ·dsimp only
    repeat (first | exact KC.refl _ _ _ | refine KC.set ?_ (.inr (by decide)) | refine KC.set ?_ (.inl (by omega)))
   ·dsimp only; omega
   ·simp [<- iy]
   ·right;intro N hN;simp [iW] at hN
    try omega
   ·dsimp only; omega
   ·simp
   ·simp [uK]
   ·simp
   ·simp
   ·first | (intro _; omega) | simp
   ·simp
section
theorem u8w (z:Int):u8 (IntKind.u8.wrap z):=by
 simp only [IntKind.wrap,IntKind.bits,IntKind.signed,u8];simp;omega
theorem Z8 {α:Type} {xs:List α} {z:Nat} {q:α} (h:xs[z]?=some q):xs.set z q=xs:=by
 obtain ⟨hz,rfl⟩:=yb.1 h;exact List.set_getElem_self hz
theorem OwnP.pci {s:pA} {ps:List KP} {pc:qA} (h:OwnP s ps pc) (ho:∀ p∈ps,p.ok) (hs:ps.length * 3<=140737488355328):PcI s.mem s.next pc:=by
 rcases h with ⟨rfl,rfl⟩ | ⟨_,N,rfl,h2,h3⟩
 ·exact .inl ⟨false,[],.ex,rfl,.inr rfl,by simp,by simp⟩
 ·exact .inr ⟨47,N,_,ps,rfl,.inl rfl,h2,h3,ho,hs⟩
section
variable {r:RV} {cn:Bool} {cs:List G1} {L i:Nat} {xs:List Nd} {c:G1} {z:Nat} {x:jC} {pc:qA} {ps:List KP} {s:pA}
theorem sw0 (hc:c.ok) (hm:c.kind % 8=0) (h:ChT cn cs L i xs c z x pc ps s) (k:Ex->pA->Option RV) (hk:∀ s2 ah,sZ cn cs L i ah s2->k .nrm s2=some r):HB.run (UF gA eA) (KJ gA eA) s k=some r:=by
 obtain ⟨⟨e1,e4,e5,e6,m4,m5,nds,nx⟩,⟨n7,e7,m7⟩,e8,⟨kk,e9,ub⟩,e67,hz,pcs,ok,sz⟩:=h;rw [hm] at e67;have sc:=nds.num _ (yk hz);have xf:=nds.row;have g:=OE hz 1 (by omega);have jb:∀ v,mA false 1 (z * 5 + 1) (PA xs) (.int .u8 v) .no=some (PA (xs.set z ({ x with a:=v },pc))):=fun v=>kE hz 1 (by omega) _ .no rfl rfl
 obtain ⟨R1,ug⟩:∃ R1:Int->List qA,∀ v,PA (xs.set z ({ x with a:=v },pc))=R1 v:=⟨_,fun v=>rfl⟩;simp only [ug] at jb;simp only [NH] at g;simp at g;generalize gk:PA xs=R0 at *
 simp only [uK] at m7;have h7:∀ n,¬ (7=13/\n=2):=by simp
 simp [HB,-V,-y3,-y0,J,-wB,-mA,iB,kB,HA,JA,e7,m7,e8,e67,xf,g,jb];refine hk _ (xs.set z ({ x with a:=IntKind.u8.wrap (IntKind.u8.wrap (x.a + c.a.tmod 5) - 2) },pc)) ⟨?_,?_,?_,?_,?_,?_,nds.upd hz ?_ ⟨sc.1,u8w _,sc.2.2⟩ ?_ ?_ ?_ (.inl rfl),?_⟩
 ·simp [e1]
 ·simp [e4]
 ·simp [e5]
 ·simp [e6]
 ·simp [m4]
 ·simp [m5]
 ·simp [ug]
 ·refine (pcs.pci ok sz).pres (ex:=none) ?_ (by dsimp only; omega) (by simp);exact KC.set (KC.refl _ _ _) (.inr (by decide))
 ·exact KC.set (KC.refl _ _ _) (.inr (by decide))
 ·dsimp only; omega
 ·dsimp only; omega
theorem sw1 (hc:c.ok) (hm:c.kind % 8=1) (h:ChT cn cs L i xs c z x pc ps s) (k:Ex->pA->Option RV) (hk:∀ s2 ah,sZ cn cs L i ah s2->k .nrm s2=some r):HB.run (UF gA eA) (KJ gA eA) s k=some r:=by
 obtain ⟨⟨e1,e4,e5,e6,m4,m5,nds,nx⟩,⟨n7,e7,m7⟩,e8,⟨kk,e9,ub⟩,e67,hz,pcs,ok,sz⟩:=h;rw [hm] at e67;have sc:=nds.num _ (yk hz);have xf:=nds.row;have g:=OE hz 2 (by omega);have jb:∀ v,mA false 1 (z * 5 + 2) (PA xs) (.int .u8 v) .no=some (PA (xs.set z ({ x with b:=v },pc))):=fun v=>kE hz 2 (by omega) _ .no rfl rfl
 obtain ⟨R1,ug⟩:∃ R1:Int->List qA,∀ v,PA (xs.set z ({ x with b:=v },pc))=R1 v:=⟨_,fun v=>rfl⟩;simp only [ug] at jb;simp only [NH] at g;simp at g;generalize gk:PA xs=R0 at *
 simp only [uK] at m7;have h7:∀ n,¬ (7=13/\n=2):=by simp
 simp [HB,-V,-y3,-y0,J,-wB,-mA,iB,kB,HA,JA,e7,m7,e8,e67,xf,g,jb];refine hk _ (xs.set z ({ x with b:=IntKind.u8.wrap (IntKind.u8.wrap (x.b + c.b.tmod 5) - 2) },pc)) ⟨?_,?_,?_,?_,?_,?_,nds.upd hz ?_ ⟨sc.1,sc.2.1,u8w _,sc.2.2.2⟩ ?_ ?_ ?_ (.inl rfl),?_⟩
 ·simp [e1]
 ·simp [e4]
 ·simp [e5]
 ·simp [e6]
 ·simp [m4]
 ·simp [m5]
 ·simp [ug]
 ·refine (pcs.pci ok sz).pres (ex:=none) ?_ (by dsimp only; omega) (by simp);exact KC.set (KC.refl _ _ _) (.inr (by decide))
 ·exact KC.set (KC.refl _ _ _) (.inr (by decide))
 ·dsimp only; omega
 ·dsimp only; omega
theorem sw3 (hc:c.ok) (hm:c.kind % 8=3) (h:ChT cn cs L i xs c z x pc ps s) (k:Ex->pA->Option RV) (hk:∀ s2 ah,sZ cn cs L i ah s2->k .nrm s2=some r):HB.run (UF gA eA) (KJ gA eA) s k=some r:=by
 obtain ⟨⟨e1,e4,e5,e6,m4,m5,nds,nx⟩,⟨n7,e7,m7⟩,e8,⟨kk,e9,ub⟩,e67,hz,pcs,ok,sz⟩:=h;rw [hm] at e67;have sc:=nds.num _ (yk hz);have xf:=nds.row;have g:=OE hz 3 (by omega);have jb:∀ v,mA false 1 (z * 5 + 3) (PA xs) (.int .u8 v) .no=some (PA (xs.set z ({ x with c:=v },pc))):=fun v=>kE hz 3 (by omega) _ .no rfl rfl
 obtain ⟨R1,ug⟩:∃ R1:Int->List qA,∀ v,PA (xs.set z ({ x with c:=v },pc))=R1 v:=⟨_,fun v=>rfl⟩;simp only [ug] at jb;simp only [NH] at g;simp at g;generalize gk:PA xs=R0 at *
 simp only [uK] at m7;have h7:∀ n,¬ (7=13/\n=2):=by simp
 simp [HB,-V,-y3,-y0,J,-wB,-mA,iB,kB,HA,JA,e7,m7,e8,e67,xf,g,jb];refine hk _ (xs.set z ({ x with c:=IntKind.u8.wrap (x.c + c.a) },pc)) ⟨?_,?_,?_,?_,?_,?_,nds.upd hz ?_ ⟨sc.1,sc.2.1,sc.2.2.1,u8w _⟩ ?_ ?_ ?_ (.inl rfl),?_⟩
 ·simp [e1]
 ·simp [e4]
 ·simp [e5]
 ·simp [e6]
 ·simp [m4]
 ·simp [m5]
 ·simp [ug]
 ·refine (pcs.pci ok sz).pres (ex:=none) ?_ (by dsimp only; omega) (by simp);exact KC.set (KC.refl _ _ _) (.inr (by decide))
 ·exact KC.set (KC.refl _ _ _) (.inr (by decide))
 ·dsimp only; omega
 ·dsimp only; omega
theorem sw2 (hc:c.ok) (hm:c.kind % 8=2) (h:ChT cn cs L i xs c z x pc ps s) (k:Ex->pA->Option RV) (hk:∀ s2 ah,sZ cn cs L i ah s2->k .nrm s2=some r):HB.run (UF gA eA) (KJ gA eA) s k=some r:=by
 obtain ⟨⟨e1,e4,e5,e6,m4,m5,nds,nx⟩,⟨n7,e7,m7⟩,e8,⟨kk,e9,ub⟩,e67,hz,pcs,ok,sz⟩:=h;rw [hm] at e67;have sc:=nds.num _ (yk hz);have xf:=nds.row;have g:=OE hz 1 (by omega);have jb:∀ v,mA false 1 (z * 5 + 1) (PA xs) (.int .u8 v) .no=some (PA (xs.set z ({ x with a:=v },pc))):=fun v=>kE hz 1 (by omega) _ .no rfl rfl
 obtain ⟨R1,ug⟩:∃ R1:Int->List qA,∀ v,PA (xs.set z ({ x with a:=v },pc))=R1 v:=⟨_,fun v=>rfl⟩;simp only [ug] at jb;simp only [NH] at g;simp at g;generalize gk:PA xs=R0 at *
 simp only [uK] at m7;have h7:∀ n,¬ (7=13/\n=2):=by simp
 have h6:c.a.tmod 6=c.a % 6:=yy hc.2.2.1.1;have h60:0<=c.a % 6:=yL _ (by omega);simp [HB,-V,-y3,-y0,J,-wB,-mA,iB,kB,HA,JA,h6,h60,XR,e7,m7,e8,e67,xf,g,jb];refine hk _ (xs.set z ({ x with a:=IntKind.u8.wrap (((x.a % 2 ^ IntKind.u8.bits).toNat ^^^ (IntKind.u8.wrap (2 ^ shN IntKind.u8 (c.a % 6)) % 2 ^ IntKind.u8.bits).toNat:Nat):Int) },pc)) ⟨?_,?_,?_,?_,?_,?_,nds.upd hz ?_ ⟨sc.1,u8w _,sc.2.2⟩ ?_ ?_ ?_ (.inl rfl),?_⟩
 ·simp [e1]
 ·simp [e4]
 ·simp [e5]
 ·simp [e6]
 ·simp [m4]
 ·simp [m5]
 ·simp [ug]
 ·refine (pcs.pci ok sz).pres (ex:=none) ?_ (by dsimp only; omega) (by simp);exact KC.set (KC.refl _ _ _) (.inr (by decide))
 ·exact KC.set (KC.refl _ _ _) (.inr (by decide))
 ·dsimp only; omega
 ·dsimp only; omega
end
end
section
theorem KC.setX {n:Nat} {ex:Option Nat} {M M':Nat->Nat->Option (List qA)} (h:KC n ex M M') {t' n':Nat} {r:List qA} (hn:ex=some n'):KC n ex M (XV M' t' n' r):=fun t N ps ht hN hx hm=>by
 rw [DA,if_neg]
 ·exact h t N ps ht hN hx hm
 ·rintro ⟨rfl,rfl⟩;exact hx hn.symm
section
variable {r:RV} {cn:Bool} {cs:List G1} {L i:Nat} {xs:List Nd} {c:G1} {z:Nat} {x:jC} {pc:qA} {ps:List KP} {s:pA}
theorem sZ.nothing {E:Nat->qA} {n:Nat} (h:sZ cn cs L i xs s) (h1:(E 1).v=(s.env 1).v) (h4:(E 4).v=(s.env 4).v) (h5:(E 5).v=(s.env 5).v) (h6:(E 6).v=(s.env 6).v) (hn:s.next<=n):sZ cn cs L i xs ⟨E,s.mem,n,s.obj,s.gh⟩:=by
 obtain ⟨e1,e4,e5,e6,m4,m5,nds,nx⟩:=h;exact ⟨h1.trans e1,h4.trans e4,h5.trans e5,h6.trans e6,m4,m5,⟨nds.len,nds.row,nds.num,fun q hq=>(nds.pc q hq).pres (ex:=none) (KC.refl _ _ _) hn (by simp),nds.dist⟩,by dsimp only; omega⟩
theorem sw6 (hc:c.ok) (hm:c.kind % 8=6) (h:ChT cn cs L i xs c z x pc ps s) (k:Ex->pA->Option RV) (hk:∀ s2 ah,sZ cn cs L i ah s2->k .nrm s2=some r):HB.run (UF gA eA) (KJ gA eA) s k=some r:=by
 obtain ⟨ch,⟨n7,e7,m7⟩,e8,⟨kk,e9,ub⟩,e67,hz,pcs,ok,sz⟩:=h;have ux:=ch;obtain ⟨e1,e4,e5,e6,m4,m5,nds,nx⟩:=ch;rw [hm] at e67;have sc:=nds.num _ (yk hz);have xf:=nds.row;have g:=OE hz 4 (by omega);simp only [NH] at g;simp at g;simp only [uK] at m7;rcases pcs with ⟨rfl,rfl⟩ | ⟨oa,N,rfl,hN,lx⟩
 ·generalize gk:PA xs=R0 at *
  simp [HB,-V,-y3,-y0,J,-wB,-mA,iB,kB,HA,JA,e7,m7,e8,e67,xf,g];refine hk _ xs (ux.nothing ?_ ?_ ?_ ?_ ?_)
  ·simp
  ·simp
  ·simp
  ·simp
  ·omega
 ·have nj:=ub oa;have oh:0<ps.length:=List.length_pos_iff.2 oa;have ii:(0:Int)<ps.length:=by omega
  have tz:(kk:Int)<ps.length:=by omega
  obtain ⟨p,hp⟩:∃ p,ps[kk]?=some p:=⟨_,y4 nj⟩;have jb:=I8 (bI ps) (k:=kk) (c:=GD p) (by rw [yc,hp]; rfl) (j:=2) (by simp [GD]) (x:=.int .u8 c.b) rfl 1;have xt:sA ((ps.map GD).set kk ((GD p).set 2 (.int .u8 c.b)))=sA ((ps.set kk { p with flag:=c.b }).map GD):=by
   rw [List.map_set]; rfl
  rw [xt] at jb;have zl:=ok p (yk hp);have tn:∀ q∈ps.set kk { p with flag:=c.b },q.ok:=fun q hq=>by
   rcases List.mem_or_eq_of_mem_set hq with hq | rfl
   ·exact ok q hq
   ·exact ⟨zl.1,zl.2.1,hc.2.2.2⟩
  generalize gk:PA xs=R0 at *
  generalize hR2:sA (ps.map GD)=R2 at *
  generalize hR3:sA ((ps.set kk { p with flag:=c.b }).map GD)=R3 at *
  have hN7:¬ (13=47/\2=N):=by simp
  simp [HB,-V,-y3,-y0,J,-wB,-mA,iB,kB,HA,JA,e7,m7,e8,e9,e67,xf,g,oh,ii,nj,tz,lx,jb];refine hk _ (xs.set z (x,⟨.ref 47 N 3 0 ps.length ps.length,.no⟩)) ⟨?_,?_,?_,?_,?_,?_,nds.upd hz ?_ sc ?_ ?_ ?_ (.inl rfl),?_⟩
  ·simp [e1]
  ·simp [e4]
  ·simp [e5]
  ·simp [e6]
  ·simp [m4]
  ·simp [m5]
  ·rw [Z8 hz];simp [xf,gk]
  ·refine .inr ⟨47,N,ps.length,ps.set kk { p with flag:=c.b },by simp,.inl rfl,by dsimp only; omega,by rw [hR3]; simp,tn,by simpa using sz⟩
  ·exact KC.setX (KC.refl _ _ _) rfl
  ·dsimp only; omega
  ·dsimp only; omega
theorem sw7 (hc:c.ok) (hm:c.kind % 8=7) (h:ChT cn cs L i xs c z x pc ps s) (k:Ex->pA->Option RV) (hk:∀ s2 ah,sZ cn cs L i ah s2->k .nrm s2=some r):HB.run (UF gA eA) (KJ gA eA) s k=some r:=by
 obtain ⟨ch,⟨n7,e7,m7⟩,e8,⟨kk,e9,ub⟩,e67,hz,pcs,ok,sz⟩:=h;have ux:=ch;obtain ⟨e1,e4,e5,e6,m4,m5,nds,nx⟩:=ch;rw [hm] at e67;have sc:=nds.num _ (yk hz);have xf:=nds.row;have g:=OE hz 4 (by omega);simp only [NH] at g;simp at g;simp only [uK] at m7;rcases pcs with ⟨rfl,rfl⟩ | ⟨oa,N,rfl,hN,lx⟩
 ·generalize gk:PA xs=R0 at *
  simp [HB,-V,-y3,-y0,J,-wB,-mA,iB,kB,HA,JA,e7,m7,e8,e67,xf,g];refine hk _ xs (ux.nothing ?_ ?_ ?_ ?_ ?_)
  ·simp
  ·simp
  ·simp
  ·simp
  ·omega
 ·have nj:=ub oa;have oh:0<ps.length:=List.length_pos_iff.2 oa;have ii:(0:Int)<ps.length:=by omega
  have tz:(kk:Int)<ps.length:=by omega
  obtain ⟨p,hp⟩:∃ p,ps[kk]?=some p:=⟨_,y4 nj⟩;have jb:=I8 (bI ps) (k:=kk) (c:=GD p) (by rw [yc,hp]; rfl) (j:=1) (by simp [GD]) (x:=.int .u8 (IntKind.u8.wrap (p.ty + c.b))) rfl 1;have hgt:=row_get1 (bI ps) (k:=kk) (c:=GD p) (by rw [yc,hp]; rfl) (j:=1) (v:=.int .u8 p.ty) (by simp [GD]) 1;rw [iB] at hgt;have xt:sA ((ps.map GD).set kk ((GD p).set 1 (.int .u8 (IntKind.u8.wrap (p.ty + c.b)))))=sA ((ps.set kk { p with ty:=IntKind.u8.wrap (p.ty + c.b) }).map GD):=by
   rw [List.map_set]; rfl
  rw [xt] at jb;have zl:=ok p (yk hp);have tn:∀ q∈ps.set kk { p with ty:=IntKind.u8.wrap (p.ty + c.b) },q.ok:=fun q hq=>by
   rcases List.mem_or_eq_of_mem_set hq with hq | rfl
   ·exact ok q hq
   ·exact ⟨zl.1,u8w _,zl.2.2⟩
  generalize gk:PA xs=R0 at *
  generalize hR2:sA (ps.map GD)=R2 at *
  generalize hR3:sA ((ps.set kk { p with ty:=IntKind.u8.wrap (p.ty + c.b) }).map GD)=R3 at *
  have hN7:¬ (13=47/\2=N):=by simp
  simp [HB,-V,-y3,-y0,J,-wB,-mA,iB,kB,HA,JA,e7,m7,e8,e9,e67,xf,g,oh,ii,nj,tz,lx,jb,hgt];refine hk _ (xs.set z (x,⟨.ref 47 N 3 0 ps.length ps.length,.no⟩)) ⟨?_,?_,?_,?_,?_,?_,nds.upd hz ?_ sc ?_ ?_ ?_ (.inl rfl),?_⟩
  ·simp [e1]
  ·simp [e4]
  ·simp [e5]
  ·simp [e6]
  ·simp [m4]
  ·simp [m5]
  ·rw [Z8 hz];simp [xf,gk]
  ·refine .inr ⟨47,N,ps.length,ps.set kk { p with ty:=IntKind.u8.wrap (p.ty + c.b) },by simp,.inl rfl,by dsimp only; omega,by rw [hR3]; simp,tn,by simpa using sz⟩
  ·exact KC.setX (KC.refl _ _ _) rfl
  ·dsimp only; omega
  ·dsimp only; omega
theorem sw4 (hc:c.ok) (hm:c.kind % 8=4) (h:ChT cn cs L i xs c z x pc ps s) (k:Ex->pA->Option RV) (hk:∀ s2 ah,sZ cn cs L i ah s2->k .nrm s2=some r):HB.run (UF gA eA) (KJ gA eA) s k=some r:=by
 obtain ⟨ch,⟨n7,e7,m7⟩,e8,⟨kk,e9,ub⟩,e67,hz,pcs,ok,sz⟩:=h;have ux:=ch;obtain ⟨e1,e4,e5,e6,m4,m5,nds,nx⟩:=ch;rw [hm] at e67;have sc:=nds.num _ (yk hz);have xf:=nds.row;have g:=OE hz 4 (by omega);simp only [NH] at g;simp at g;simp only [uK] at m7;obtain ⟨pq,hc2,hc3,hc4⟩:=hc;have jm:u8 (IntKind.u8.wrap (c.a.tdiv 12)):=u8w _;have hq:(⟨c.a,c.b,IntKind.u8.wrap (c.a.tdiv 12)⟩:KP).ok:=⟨hc3,hc4,jm⟩;generalize kh:IntKind.u8.wrap (c.a.tdiv 12)=fl at *
 have jb:∀ n l y,(xs.set z (x,y))[z]?=some (x,y)->mA false 1 (z * 5 + 4) (PA (xs.set z (x,y))) (.ref 168 n 3 0 l l) .no=some (PA (xs.set z (x,⟨.ref 168 n 3 0 l l,.no⟩))):=fun n l y hy=>by
  rw [kE hy 4 (by omega) _ .no rfl rfl (q':=(x,⟨.ref 168 n 3 0 l l,.no⟩)),List.set_set]
 have xj:=(yb.1 hz).1;have room3:uB 3 1=true:=by decide
 rcases pcs with ⟨rfl,rfl⟩ | ⟨oa,N,rfl,hN,lx⟩
 ·have mg:∀ n l,mA false 1 (z * 5 + 4) (PA xs) (.ref 168 n 3 0 l l) .no=some (PA (xs.set z (x,⟨.ref 168 n 3 0 l l,.no⟩))):=fun n l=>kE hz 4 (by omega) _ .no rfl rfl
  obtain ⟨R1,ug⟩:∃ R1:Nat->Nat->List qA,∀ n l,PA (xs.set z (x,⟨.ref 168 n 3 0 l l,.no⟩))=R1 n l:=⟨_,fun n l=>rfl⟩;simp only [ug] at mg;generalize gk:PA xs=R0 at *
  simp [HB,-V,-y3,-y0,J,-wB,-mA,iB,kB,HA,JA,e7,m7,e8,e67,xf,g,room3,mg,kh];refine hk _ (xs.set z (x,⟨.ref 168 (s.next + 6) 3 0 1 1,.no⟩)) ⟨?_,?_,?_,?_,?_,?_,nds.upd hz ?_ sc ?_ ?_ ?_ (.inr fun M hM=>?_),?_⟩
  ·simp [e1]
  ·simp [e4]
  ·simp [e5]
  ·simp [e6]
  ·simp [m4]
  ·simp [m5]
  ·simp [ug]
  ·refine .inr ⟨168,s.next + 6,1,[⟨c.a,c.b,fl⟩],rfl,.inr (.inl rfl),by dsimp only; omega,by simp [GD],by simpa using hq,by simp⟩
  ·exact KC.set (KC.set (KC.refl _ _ _) (.inl (by omega))) (.inr (by decide))
  ·dsimp only; omega
  ·simp [iW] at hM; omega
  ·dsimp only; omega
 ·by_cases h8:ps.length<8
  ·have h8i:(ps.length:Int)<8:=by omega
   have nj:=dV nds hz (t:=47) (N:=N) rfl;have hkl':(PA xs).map (qA.kill 47 N)=PA (xs.set z (x,⟨.undef,.no⟩)):=by
    rw [nj];simp [qA.kill_mk,AV.kill,AV.kill0]
   have mg:∀ n,mA false 1 (z * 5 + 4) ((PA xs).map (qA.kill 47 N)) (.ref 168 n 3 0 (ps.length + 1) (ps.length + 1)) .no=some (PA (xs.set z (x,⟨.ref 168 n 3 0 (ps.length + 1) (ps.length + 1),.no⟩))):=fun n=>by
    rw [hkl'];exact jb n (ps.length + 1) _ (List.getElem?_set_self xj)
   obtain ⟨R1,ug⟩:∃ R1:Nat->List qA,∀ n,PA (xs.set z (x,⟨.ref 168 n 3 0 (ps.length + 1) (ps.length + 1),.no⟩))=R1 n:=⟨_,fun n=>rfl⟩;simp only [ug] at mg;have q3:=bI ps;have jg:sD (sA (ps.map GD)) 3 0 ps.length=some (ps.map GD):=by
    have:=nG (bI ps) (IN ps);simpa using this
   have ja:uB 3 (ps.length + 1)=true:=by rw [TA]; omega
   have ph:sA (ps.map GD++[[AV.int .u8 c.a,AV.int .u8 c.b,AV.int .u8 fl]])=sA ((ps++[(⟨c.a,c.b,fl⟩:KP)]).map GD):=by simp [GD]
   generalize gk:PA xs=R0 at *
   generalize hR2:sA (ps.map GD)=R2 at *
   have oh:0<ps.length:=List.length_pos_iff.2 oa;simp [HB,-V,-y3,-y0,J,-wB,-mA,iB,kB,HA,JA,e7,m7,e8,e67,xf,g,mg,kh,h8,h8i,lx,jg,ja,q3,Cl.okMem];refine hk _ (xs.set z (x,⟨.ref 168 (s.next + 6) 3 0 (ps.length + 1) (ps.length + 1),.no⟩)) ⟨?_,?_,?_,?_,?_,?_,nds.upd hz ?_ sc ?_ ?_ ?_ (.inr fun M hM=>?_),?_⟩
   ·simp [e1]
   ·simp [e4]
   ·simp [e5]
   ·simp [e6]
   ·simp [m4]
   ·simp [m5]
   ·simp [ug]
   ·refine .inr ⟨168,s.next + 6,ps.length + 1,ps++[⟨c.a,c.b,fl⟩],by simp,.inr (.inl rfl),by dsimp only; omega,by rw [<- ph]; simp,?_,by simp; omega⟩;intro p hp;rcases yw.1 hp with hp | hp
    ·exact ok p hp
    ·simp at hp;rw [hp];exact hq
   ·exact KC.set (KC.set (KC.kill (KC.refl _ _ _) rfl) (.inl (by omega))) (.inr (by decide))
   ·dsimp only; omega
   ·simp [iW] at hM; omega
   ·dsimp only; omega
  ·have h8i:¬ (ps.length:Int)<8:=by omega
   generalize gk:PA xs=R0 at *
   simp [HB,-V,-y3,-y0,J,-wB,-mA,iB,kB,HA,JA,e7,m7,e8,e67,xf,g,h8,h8i];refine hk _ xs (ux.nothing ?_ ?_ ?_ ?_ ?_)
   ·simp
   ·simp
   ·simp
   ·simp
   ·omega
end
end
section
theorem OR {sz:Nat} {L:List (List AV)} (h:gB sz L=true) (hf:nD L=true) {a b:Nat} (pf:a + b<=L.length):sD (sA L) sz (a * sz) b=some ((L.drop a).take b):=by
 have h1:=nG h hf;have hl:=mG h;unfold sD at h1 ⊢;split at h1
 case isFalse=>cases h1
 rename_i hc;injection h1 with h1;have sb:a * sz + b * sz<=(sA L).length:=by
  rw [hl,<- Nat.add_mul];exact Y00 _ pf
 rw [if_pos ⟨sb,hc.2⟩];congr 1;refine List.ext_getElem? fun i=>?_
 by_cases hi:i<b
 ·have e1:=congrArg (·[a + i]?) h1;simp only [yc] at e1;rw [List.getElem?_range (by omega)] at e1;rw [yc,List.getElem?_range hi,yV,if_pos hi,yR,<- e1];simp only [yx,yH,Nat.add_mul]
 ·rw [yP (by simp; omega),yP (by simp; omega)]
section
variable {r:RV} {cn:Bool} {cs:List G1} {L i:Nat} {xs:List Nd} {c:G1} {z:Nat} {x:jC} {pc:qA} {ps:List KP} {s:pA}
theorem sw5 (hc:c.ok) (hm:c.kind % 8=5) (h:ChT cn cs L i xs c z x pc ps s) (k:Ex->pA->Option RV) (hk:∀ s2 ah,sZ cn cs L i ah s2->k .nrm s2=some r):HB.run (UF gA eA) (KJ gA eA) s k=some r:=by
 obtain ⟨ch,⟨n7,e7,m7⟩,e8,⟨kk,e9,ub⟩,e67,hz,pcs,ok,sz⟩:=h;have ux:=ch;obtain ⟨e1,e4,e5,e6,m4,m5,nds,nx⟩:=ch;rw [hm] at e67;have sc:=nds.num _ (yk hz);have xf:=nds.row;have g:=OE hz 4 (by omega);simp only [NH] at g;simp at g;simp only [uK] at m7;have xj:=(yb.1 hz).1;rcases pcs with ⟨rfl,rfl⟩ | ⟨oa,N,rfl,hN,lx⟩
 ·generalize gk:PA xs=R0 at *
  simp [HB,-V,-y3,-y0,J,-wB,-mA,iB,kB,HA,JA,e7,m7,e8,e67,xf,g];refine hk _ xs (ux.nothing ?_ ?_ ?_ ?_ ?_)
  ·simp
  ·simp
  ·simp
  ·simp
  ·omega
 ·have nj:=ub oa;have oh:0<ps.length:=List.length_pos_iff.2 oa;have ii:(0:Int)<ps.length:=by omega
  have hwk:=ZA (i:=kk);have hkle:kk<=ps.length:=by omega
  have ak:(0:Int)<=(kk:Int) + 1:=by omega
  have wr:=dV nds hz (t:=47) (N:=N) rfl;have rz:(PA xs).map (qA.kill 47 N)=PA (xs.set z (x,⟨.undef,.no⟩)):=by
   rw [wr];simp [qA.kill_mk,AV.kill,AV.kill0]
  have mg:∀ n l,mA false 1 (z * 5 + 4) ((PA xs).map (qA.kill 47 N)) (.ref 193 n 3 0 l l) .no=some (PA (xs.set z (x,⟨.ref 193 n 3 0 l l,.no⟩))):=fun n l=>by
   have hs:=kE (show (xs.set z (x,(⟨.undef,.no⟩:qA)))[z]?=some (x,⟨.undef,.no⟩) from List.getElem?_set_self xj) 4 (by omega) (.ref 193 n 3 0 l l) .no rfl (q':=(x,⟨.ref 193 n 3 0 l l,.no⟩)) rfl;rw [rz,hs,List.set_set]
  obtain ⟨R1,ug⟩:∃ R1:Nat->Nat->List qA,∀ n l,PA (xs.set z (x,⟨.ref 193 n 3 0 l l,.no⟩))=R1 n l:=⟨_,fun n l=>rfl⟩;simp only [ug] at mg;have q1:=bI (ps.take kk);have q2:=bI (ps.drop (kk + 1));have hre1:sD (sA (ps.map GD)) 3 0 kk=some ((ps.take kk).map GD):=by
   have:=OR (bI ps) (IN ps) (a:=0) (b:=kk) (by simp; omega);simpa [yM] using this
  have hre2:sD (sA (ps.map GD)) 3 ((kk + 1) * 3) (ps.length - (kk + 1))=some ((ps.drop (kk + 1)).map GD):=by
   have:=OR (bI ps) (IN ps) (a:=kk + 1) (b:=ps.length - (kk + 1)) (by simp; omega);rw [this,List.map_drop,yD (by simp)]
  have ja:uB 3 (kk + (ps.length - (kk + 1)))=true:=by rw [TA]; omega
  have kg:uB 3 kk=true:=by rw [TA]; omega
  have tn:∀ q∈ps.take kk++ps.drop (kk + 1),q.ok:=fun q hq=>by
   rcases yw.1 hq with hq | hq
   ·exact ok q (List.mem_of_mem_take hq)
   ·exact ok q (List.mem_of_mem_drop hq)
  have hrr:sA ((ps.take kk).map GD++(ps.drop (kk + 1)).map GD)=sA ((ps.take kk++ps.drop (kk + 1)).map GD):=by rw [yU]
  have dq:(ps.take kk).length=kk:=by rw [yz]; omega
  have gn:(ps.drop (kk + 1)).length=ps.length - (kk + 1):=List.length_drop;have ia:(ps.take kk++ps.drop (kk + 1)).length=kk + (ps.length - (kk + 1)):=by rw [yp,dq,gn]
  generalize hT:ps.take kk=T at *
  generalize hD:ps.drop (kk + 1)=D at *
  generalize gk:PA xs=R0 at *
  generalize hR2:sA (ps.map GD)=R2 at *
  by_cases oo:ps.length=kk + 1
  ·have hD0:D=[]:=yS (by omega);subst hD0;simp only [yN] at tn;simp [HB,-V,-y3,-y0,J,-wB,-mA,iB,kB,HA,JA,e7,m7,e8,e9,e67,xf,g,mg,oh,ii,hkle,ak,hwk,lx,oo,hre1,kg,q1,Cl.okMem,lJ];refine hk _ (xs.set z (x,⟨.ref 193 (s.next + 7) 3 0 (kk) (kk),.no⟩)) ⟨?_,?_,?_,?_,?_,?_,nds.upd hz ?_ sc ?_ ?_ ?_ (.inr fun M hM=>?_),?_⟩
   ·simp [e1]
   ·simp [e4]
   ·simp [e5]
   ·simp [e6]
   ·simp [m4]
   ·simp [m5]
   ·simp [ug]
   ·refine .inr ⟨193,s.next + 7,kk,T,by rw [dq],.inr (.inr rfl),by dsimp only; omega,by simp,tn,by rw [dq]; omega⟩
   ·exact KC.set (KC.set (KC.kill (KC.refl _ _ _) rfl) (.inl (by omega))) (.inr (by decide))
   ·dsimp only; omega
   ·simp [iW] at hM; omega
   ·dsimp only; omega
  ·have h1:kk + 1<=ps.length:=by omega
   simp [HB,-V,-y3,-y0,J,-wB,-mA,iB,kB,HA,JA,e7,m7,e8,e9,e67,xf,g,mg,oh,ii,hkle,ak,hwk,lx,oo,h1,hre1,hre2,ja,q1,q2,gn,Cl.okMem,lJ];refine hk _ (xs.set z (x,⟨.ref 193 (s.next + 7) 3 0 (kk + (ps.length - (kk + 1))) (kk + (ps.length - (kk + 1))),.no⟩)) ⟨?_,?_,?_,?_,?_,?_,nds.upd hz ?_ sc ?_ ?_ ?_ (.inr fun M hM=>?_),?_⟩
   ·simp [e1]
   ·simp [e4]
   ·simp [e5]
   ·simp [e6]
   ·simp [m4]
   ·simp [m5]
   ·simp [ug]
   ·refine .inr ⟨193,s.next + 7,kk + (ps.length - (kk + 1)),T++D,by rw [ia],.inr (.inr rfl),by dsimp only; omega,by rw [<- hrr]; simp,tn,by rw [ia]; omega⟩
   ·exact KC.set (KC.set (KC.kill (KC.refl _ _ _) rfl) (.inl (by omega))) (.inr (by decide))
   ·dsimp only; omega
   ·simp [iW] at hM; omega
   ·dsimp only; omega
theorem sw_ev (hc:c.ok) (h:ChT cn cs L i xs c z x pc ps s) (k:Ex->pA->Option RV) (hk:∀ s2 ah,sZ cn cs L i ah s2->k .nrm s2=some r):HB.run (UF gA eA) (KJ gA eA) s k=some r:=by
 have h0:=yL c.kind (b:=8) (by omega);have h1:=yQ c.kind (b:=8) (by omega);by_cases m0:c.kind % 8=0
 ·exact sw0 hc m0 h k hk
 by_cases m1:c.kind % 8=1
 ·exact sw1 hc m1 h k hk
 by_cases m2:c.kind % 8=2
 ·exact sw2 hc m2 h k hk
 by_cases m3:c.kind % 8=3
 ·exact sw3 hc m3 h k hk
 by_cases m4:c.kind % 8=4
 ·exact sw4 hc m4 h k hk
 by_cases m5:c.kind % 8=5
 ·exact sw5 hc m5 h k hk
 by_cases m6:c.kind % 8=6
 ·exact sw6 hc m6 h k hk
 ·exact sw7 hc (by omega) h k hk
end
end
theorem rowRaw_v {R R':List qA} (h:R.map (·.v)=R'.map (·.v)) (sz off len:Nat):eH R sz off len=eH R' sz off len:=by
 have hl:R.length=R'.length:=by simpa using congrArg List.length h
 unfold eH;rw [hl];split
 ·congr 1;refine ym fun i _=>?_
  rw [yM,yM,List.map_drop,List.map_drop,h]
 ·rfl
theorem frz_rowV {s:pA} {t n sz c:Nat} {L:List (List AV)} {R:List qA} (h:gB sz L=true) (hm:s.mem t n=some R) (hv:R.map (·.v)=(sA L).map (·.v)) (hf:(L.map fun c=>c.map (AV.frz1 s)).flatten.all AV.free0=true):AV.frz0 s (.ref t n sz 0 L.length c)=.sl false (L.map fun c=>c.map (AV.frz1 s)):=by
 have hr:eH R sz 0 L.length=some L:=by
  rw [rowRaw_v hv];exact eG fun c hc=>by simpa using y5.1 h c hc
 have ne:R.all (fun x=>x.v.free0)=(sA L).all (fun x=>x.v.free0):=by
  have e:∀ q:List qA,q.all (fun x=>x.v.free0)=(q.map (·.v)).all AV.free0:=fun q=>by rw [List.all_map]; rfl
  rw [e,e,hv]
 simp only [AV.frz0,hm,V,K0,ne];by_cases ta:(sA L).all (fun x=>x.v.free0)=true
 ·rw [if_pos ta,hr];have:(L.map fun c=>c.map (AV.frz1 s))=L.map id:=ym fun c hc=>by
   have:c.map (AV.frz1 s)=c.map id:=ym fun v hv=>PZ (by
    have:=y5.1 ta ⟨v,.no⟩ (yA.2 ⟨v,List.mem_flatten.2 ⟨c,hc,hv⟩,rfl⟩);exact this)
   rwa [List.map_id] at this
  rw [this,List.map_id]
 ·rw [if_neg ta];simp only [T3,hr,V];rw [if_pos hf]
def ndC (q:Nd):List AV:=(NH q).map (·.v)
theorem L7:∀ xs:List Nd,(PA xs).map (·.v)=(sA (xs.map ndC)).map (·.v)
 | []=>rfl
 | q :: r=>by
  have:=L7 r;unfold PA sA at this ⊢;simp only [List.flatMap_cons,yU,yj,yF];rw [this];simp [ndC]
def jC.sized (x:jC):Prop:=x.parts.length * 3<=140737488355328
theorem nd_frz2 {L:Nat} {s:pA} {xs:List Nd} (h:X3 L s.mem s.next xs):∀ ys:List Nd,(∀ q∈ys,q∈xs)->∃ l':List jC,(∀ x∈l',x.ok/\x.sized)/\((ys.map ndC).map fun c=>c.map (AV.frz1 s))=l'.map HC
 | [],_=>⟨[],by simp,rfl⟩
 | q :: r,hq=>by
  obtain ⟨l',h1,h2⟩:=nd_frz2 h r fun b hb=>hq b (by simp [hb])
  have hm:=hq q (by simp);have hn:=h.num q hm;have hx:∃ x':jC,(x'.ok/\x'.sized)/\(ndC q).map (AV.frz1 s)=HC x':=by
   rcases h.pc q hm with ⟨nl,ps,a,e,_,h3,h4⟩ | ⟨t,N,c,ps,e,_,_,h3,h4,h5⟩
   ·refine ⟨⟨q.1.k,q.1.a,q.1.b,q.1.c,nl,ps⟩,⟨⟨hn.1,hn.2.1,hn.2.2.1,hn.2.2.2,by dsimp only; omega,h3⟩,by unfold jC.sized; dsimp only; omega⟩,?_⟩;simp [ndC,NH,e,AV.frz1,HC]
   ·refine ⟨⟨q.1.k,q.1.a,q.1.b,q.1.c,false,ps⟩,⟨⟨hn.1,hn.2.1,hn.2.2.1,hn.2.2.2,by dsimp only; omega,h4⟩,by unfold jC.sized; dsimp only; omega⟩,?_⟩;have:=nG (bI ps) (IN ps);simp only [yo] at this;simp [ndC,NH,e,AV.frz1,HC,h3,this]
  obtain ⟨x',h3,h4⟩:=hx;refine ⟨x' :: l',?_,?_⟩
  ·intro y hy;rcases yh.1 hy with rfl | hy
   ·exact h3
   ·exact h1 y hy
  ·simp only [yj,h4,h2]
def ChE2 (n:Nat) (e:Ex) (s:pA):Prop:=e=.ret/\(s.env 4).v=.ptr 4 1 0/\((n=0/\s.mem 4 1=some [⟨.sl false [],.no⟩])\/∃ xs,s.mem 4 1=some [⟨.ref 13 2 5 0 n n,.no⟩]/\X3 n s.mem s.next xs)
section
variable {dn cn:Bool} {l:List jC} (hx:∀ x∈l,x.ok/\x.sized) (hl:l.length * 32<=140737488355328) {cs:List G1} (hc:∀ c∈cs,c.ok) (ad:cs.length<=9223372036854775807)
include dn cn l hx hl cs hc ad
theorem N1 (k:Ex->pA->Option RV) (r:RV) (hk:∀ e s',ChE2 l.length e s'->k e s'=some r):tE.code.run (UF gA eA) (KJ gA eA) (pA.init [.agg (OF dn l),.sl cn (cs.map OY)] none) k=some r:=by
 have kg:uB 32 0=true:=by decide
 by_cases oa:l=[]
 ·subst oa;simp [tE,OF,-V,-y3,-y0,J,kg];refine lA 0 (fun _ s=>(s.env 1).v=.sl cn (cs.map OY)/\(s.env 4).v=.ptr 4 1 0/\(s.env 5).v=.ptr 5 2 0/\(s.env 6).v=.int .i64 0/\s.mem 4 1=some [⟨.sl true [],.ex⟩]/\s.mem 5 2=some [⟨.sl false [],.no⟩])
   (fun e s=>e=.exit 0/\(s.env 4).v=.ptr 4 1 0/\(s.env 5).v=.ptr 5 2 0/\s.mem 4 1=some [⟨.sl true [],.ex⟩]/\s.mem 5 2=some [⟨.sl false [],.no⟩]) (fun i hi s k h ih hk=>?_) _ _ ?_ (fun e s h=>?_)
  ·obtain ⟨e1,e4,e5,e6,m4,m5⟩:=h;refine tA ?_;by_cases h0:cs=[]
   ·subst h0;simp at e1;simp [cC,-V,-y3,-y0,J,e1,e5,e6,m5];exact hk _ _ ⟨rfl,by simp [e4],by simp [e5],m4,m5⟩
   ·have h1:(0:Int)<cs.length:=by have:=List.length_pos_iff.2 h0; omega
    have h2:=List.length_pos_iff.2 h0;simp [cC,-V,-y3,-y0,J,e1,e5,e6,m5,h1,h2];exact hk _ _ ⟨rfl,by simp [e4],by simp [e5],m4,m5⟩
  ·refine ⟨?_,?_,?_,?_,?_,?_⟩ <;> simp
  ·obtain ⟨rfl,e4,e5,m4,m5⟩:=h;simp [-V,-y3,-y0,J,e4,e5,m4,m5];exact hk _ _ ⟨rfl,by simp [e4],.inl ⟨by simp,by simp⟩⟩
 ·have oh:=List.length_pos_iff.2 oa;have ii:(0:Int)<l.length:=by omega
  have bg:l.isEmpty=false:=by simpa using oa
  have ja:uB 32 l.length=true:=by rw [TA]; omega
  have ud:gB 5 (l.map HC)=true:=tC _ _ _ fun _=>rfl
  simp [tE,OF,-V,-y3,-y0,J,ja,ud,bg,oa];refine lA cs.length (fun i s=>∃ xs,sZ cn cs l.length i xs s)
   (fun e s=>e=.exit 0/\∃ xs,sZ cn cs l.length cs.length xs s) (fun i hi s k h ih hk=>?_) _ _ ?_ (fun e s h=>?_)
  ·obtain ⟨xs,h⟩:=h;by_cases fa:i<cs.length
   ·refine chg_head fa ad hc oh (by omega) h k (fun s' cj c z x pc ps kk kr hT ub=>sw_ev (hc c kr) hT kk ub) (fun s' cj h'=>ih fa s' ⟨cj,h'⟩)
   ·have og:i=cs.length:=by omega
    have ga:¬ (i:Int)<cs.length:=by omega
    refine tA ?_;have e1:=h.e1;have e6:=h.e6;simp [cC,-V,-y3,-y0,J,e1,e6,ga];rw [<- og];refine hk _ _ ⟨rfl,xs,?_⟩;rw [<- og];exact h.nothing (by simp) (by simp) (by simp) (by simp) (by omega)
  ·refine ⟨l.map fun x=>(x,⟨.sl x.pn (x.parts.map GD),.no⟩),⟨?_,?_,?_,?_,?_,?_,⟨by simp,?_,?_,?_,?_⟩,?_⟩⟩
   ·simp
   ·simp
   ·simp
   ·simp
   ·simp
   ·simp
   ·have:sA (l.map HC)=PA (l.map fun x=>(x,⟨.sl x.pn (x.parts.map GD),.no⟩)):=by
     unfold sA PA;rw [List.map_flatten,y0,List.flatMap_map];rfl
    simp [this]
   ·intro q hq;obtain ⟨x,ev,rfl⟩:=yA.1 hq;have:=(hx x ev).1;exact ⟨this.1,this.2.1,this.2.2.1,this.2.2.2.1⟩
   ·intro q hq;obtain ⟨x,ev,rfl⟩:=yA.1 hq;exact .inl ⟨x.pn,x.parts,.no,rfl,.inl rfl,(hx x ev).1.2.2.2.2.2,(hx x ev).2⟩
   ·intro j k a b N _ ha _ ay _;rw [yc] at ha;obtain ⟨x,_,rfl⟩:=yf.1 ha;simp [iW] at ay
   ·simp
  ·obtain ⟨rfl,xs,e1,e4,e5,e6,m4,m5,nds,nx⟩:=h;simp [-V,-y3,-y0,J,e4,e5,m4,m5];refine hk _ _ ⟨rfl,by simp [e4],.inr ⟨xs,by simp,?_⟩⟩;exact ⟨nds.len,by simp [nds.row],nds.num,fun q hq=>(nds.pc q hq).pres (ex:=none) (KC.set (KC.refl _ _ _) (.inr (by decide))) (by dsimp only; omega) (by simp),nds.dist⟩
theorem G6:∃ r:RV,(∃ l':List jC,(∀ x∈l',x.ok/\x.sized)/\l'.length=l.length/\r=(.agg (OF false l'),none))/\UF gA eA 69 [.agg (OF dn l),.sl cn (cs.map OY)] none=some r:=by
 refine evC_reach allT_det tE rfl rfl (F:=ChE2 l.length) (N1 hx hl hc ad) fun e s' h=>?_
 have md:tE.res=[.cell 4 true 1]:=rfl;obtain ⟨rfl,e4,⟨pg,m4⟩ | ⟨xs,m4,nds⟩⟩:=h
 ·exact ⟨_,by simp [XN,md,tT,e4,m4,wB,AV.frz,AV.frz0,GW,AV.free,AV.free0,ZV]; rfl,[],by simp,by simp [pg],rfl⟩
 ·obtain ⟨l',h1,h2⟩:=nd_frz2 nds xs fun q hq=>hq
  have ud:gB 5 (xs.map ndC)=true:=tC _ _ _ fun _=>rfl
  have g2:=frz_rowV (c:=l.length) ud nds.row (L7 xs) (by rw [h2]; simp [HC,AV.free0]);rw [yo,nds.len,h2] at g2;have f1:AV.frz s' (.agg [.ref 13 2 5 0 l.length l.length])=.agg [.sl false (l'.map HC)]:=by simp only [AV.frz,yj,yt,g2]
  exact ⟨_,by simp [XN,md,tT,e4,m4,wB,f1,GW,AV.free,AV.free0,ZV,-AV.frz,-AV.frz0]; rfl,l',h1,by have:=congrArg List.length h2; simp only [yo] at this; rw [<- this,nds.len],rfl⟩
end
end Go.Proofs.YtbnlmgncbgaepaaGreat
