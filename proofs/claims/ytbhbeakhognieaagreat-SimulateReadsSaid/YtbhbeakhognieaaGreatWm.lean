/- A part of the proof. -/
import Derived.Test.YtbhbeakhognieaaGreatWk
import Derived.Test.YtbhbeakhognieaaGreatWl
set_option linter.all false
set_option maxRecDepth 100000
set_option maxHeartbeats 8000000
open Option renaming bind_some → J, map_eq_some_iff → yn, map_some → yr
open List renaming range_succ → y0, map_map → y3, getElem?_eq_getElem → y5, all_eq_true → y6, getElem_mem → y8, getElem?_eq_some_iff → y9, drop_eq_getElem_cons → yb, getElem?_map → yc, map_cons → yf, mem_cons → yg, mem_of_getElem? → yh, map_nil → ym, mem_map → yp, getElem_of_mem → yq, length_map → yu, map_congr_left → yw, mem_append → yx, length_append → yz, take_of_length_le → yB, length_cons → yF, getElem?_append_left → yG, map_append → yH, flatten_cons → yI, length_take → yL, eq_nil_of_length_eq_zero → yM, getElem?_append_right → yQ, getElem?_drop → yU, getElem?_take → yV, getElem?_eq_none → yY, length_pos_iff → Y02
open Int renaming toNat_lt → y4, tmod_eq_emod_of_nonneg → yt, emod_nonneg → yC, emod_lt_of_pos → yD
open Nat renaming le_refl → yj, zero_add → yK, mul_le_mul_right → yZ
namespace Go.Proofs.YtbhbeakhognieaaGreat
open Go
def wC:C:=.block 2 (oR [oS 93 (.bin .eql false (.t 67) (.c (.int .u8 0))),oM 92 93] (oD 92 (.reg [oM 94 8,oM 95 8,oK 96 95,oF 97 1 96,oL 98 97,oF 99 2 7,oLr 100 7 1 99,oS 101 (.bin .rem false (.t 100) (.c (.int .u8 5))),oB 102 .add 98 101,oS 103 (.bin .sub false (.t 102) (.c (.int .u8 2))),oK 104 94,oF 105 1 104,oW 105 103]) (oR [oS 107 (.bin .eql false (.t 67) (.c (.int .u8 1))),oM 106 107] (oD 106 (.reg [oM 108 8,oM 109 8,oK 110 109,oF 111 2 110,oL 112 111,oF 113 3 7,oLr 114 7 1 113,oS 115 (.bin .rem false (.t 114) (.c (.int .u8 5))),oB 116 .add 112 115,oS 117 (.bin .sub false (.t 116) (.c (.int .u8 2))),oK 118 108,oF 119 2 118,oW 119 117]) (oR [oS 121 (.bin .eql false (.t 67) (.c (.int .u8 2))),oM 120 121] (oD 120 (.reg [oM 122 8,oM 123 8,oK 124 123,oF 125 1 124,oL 126 125,oF 127 2 7,oLr 128 7 1 127,oS 129 (.bin .rem false (.t 128) (.c (.int .u8 6))),oS 130 (.bin .shl false (.c (.int .u8 1)) (.t 129)),oB 131 .xor 126 130,oK 132 122,oF 133 1 132,oW 133 131]) (oR [oS 135 (.bin .eql false (.t 67) (.c (.int .u8 3))),oM 134 135] (oD 134 (.reg [oM 136 8,oM 137 8,oK 138 137,oF 139 3 138,oL 140 139,oF 141 2 7,oLr 142 7 1 141,oB 143 .add 140 142,oK 144 136,oF 145 3 144,oW 145 143]) (oR [oS 147 (.bin .eql false (.t 67) (.c (.int .u8 4))),oM 146 147] (oD 146 (oR [oM 148 8,oK 149 148,oF 150 4 149,oL 151 150,oH 152 151,oC 153 .lss 152 8] (oD 153 (.reg [oM 154 8,oM 155 8,oK 156 155,oF 157 4 156,oL 158 157,oF 159 2 7,oLr 160 7 1 159,oF 161 3 7,oLr 162 7 1 161,oF 163 2 7,oLr 164 7 1 163,oS 165 (.bin .quo false (.t 164) (.c (.int .u8 12))),oS 166 (.build zzg [(0,(1,(.t 160))),(1,(1,(.t 162))),(2,(1,(.t 165)))]),oS 167 (.bsl zzg 1 [(0,(.t 166))]),oS 168 (.appm .any 160 3 3 (.t 158) (.t 167)),oK 169 154,oF 170 4 169,oW 170 168]) .skip)) (oR [oS 172 (.bin .eql false (.t 67) (.c (.int .u8 5))),oM 171 172] (oD 171 (oR [oM 173 8,oK 174 173,oF 175 4 174,oL 176 175,oH 177 176,oC 178 .gtr 177 0] (oD 178 (.reg [oM 179 8,oM 180 8,oK 181 180,oF 182 4 181,oL 183 182,oM 184 9,oS 185 (.slc false 3 (.t 183) .none (.some (.t 184)) .none),oM 186 8,oK 187 186,oF 188 4 187,oL 189 188,oM 190 9,oC 191 .add 190 1,oS 192 (.slc false 3 (.t 189) (.some (.t 191)) .none .none),oS 193 (.appm .any 160 3 3 (.t 185) (.t 192)),oK 194 179,oF 195 4 194,oW 195 193]) .skip)) (oR [oS 197 (.bin .eql false (.t 67) (.c (.int .u8 6))),oM 196 197] (oD 196 (oR [oM 198 8,oK 199 198,oF 200 4 199,oL 201 200,oH 202 201,oC 203 .gtr 202 0] (oD 203 (.reg [oM 204 8,oK 205 204,oF 206 4 205,oL 207 206,oM 208 9,oF 209 3 7,oLr 210 7 1 209,oI 211 3 207 208,oF 212 2 211,oW 212 210]) .skip)) (oR [oM 68 8,oK 69 68,oF 70 4 69,oL 71 70,oH 72 71,oC 73 .gtr 72 0] (oD 73 (.reg [oM 74 8,oK 75 74,oF 76 4 75,oL 77 76,oM 78 9,oM 79 8,oK 80 79,oF 81 4 80,oL 82 81,oM 83 9,oI 84 3 82 83,oF 85 1 84,oL 86 85,oF 87 3 7,oLr 88 7 1 87,oB 89 .add 86 88,oI 90 3 77 78,oF 91 1 90,oW 91 89]) .skip))))))))))))))))
theorem chg_L1:TC=.seq (.seq (.reg [⟨(.some 15),(.mv (.t 6)),.none⟩,⟨(.some 16),(.mv (.t 1)),.none⟩,⟨(.some 17),(.len .false (.t 16)),.none⟩,⟨(.some 18),(.bin .lss .false (.t 15) (.t 17)),.none⟩,⟨(.some 19),(.mv (.t 18)),.none⟩,⟨(.some 20),(.faddr 0 (.t 5)),(.some (19,.true))⟩,⟨(.some 21),(.load .any .false 1 (.t 20)),(.some (19,.true))⟩,⟨(.some 22),(.len .false (.t 21)),(.some (19,.true))⟩,⟨(.some 23),(.bin .gtr .false (.t 22) (.c (.int .i64 0))),(.some (19,.true))⟩,⟨(.some 24),(.pick (.t 19) (.t 23) (.c (.bool .false))),.none⟩]) (.cond (.t 24) .skip (.exit 0))) (.seq (.block 1 (.seq (.reg [⟨(.some 27),(.mv (.t 1)),.none⟩,⟨(.some 28),(.mv (.t 6)),.none⟩,⟨(.some 29),(.iaddr 4 (.t 27) (.t 28)),.none⟩,⟨(.some 30),(.load .any .true 4 (.t 29)),.none⟩,⟨(.some 7),(.alloc [(.int .u8 0),(.int .u8 0),(.int .u8 0),(.int .u8 0)]),.none⟩,⟨.none,(.store .any .true 4 (.t 7) (.t 30)),.none⟩]) (.seq (.reg [⟨(.some 31),(.faddr 0 (.t 5)),.none⟩,⟨(.some 32),(.load (.root 5) .false 1 (.t 31)),.none⟩,⟨(.some 33),(.faddr 1 (.t 7)),.none⟩,⟨(.some 34),(.load (.root 7) .false 1 (.t 33)),.none⟩,⟨(.some 35),(.conv (.some .i64) (.t 34)),.none⟩,⟨(.some 36),(.faddr 0 (.t 5)),.none⟩,⟨(.some 37),(.load (.root 5) .false 1 (.t 36)),.none⟩,⟨(.some 38),(.len .false (.t 37)),.none⟩,⟨(.some 39),(.bin .rem .false (.t 35) (.t 38)),.none⟩,⟨(.some 40),(.iaddr 5 (.t 32) (.t 39)),.none⟩,⟨(.some 8),(.mv (.t 40)),.none⟩]) (.seq (.reg [⟨(.some 41),(.mv (.t 8)),.none⟩,⟨(.some 42),(.bsl [(.int .u8 0),(.int .u8 0),(.int .u8 0)] 0 []),.none⟩,⟨(.some 43),(.mv (.t 8)),.none⟩,⟨(.some 44),(.nilchk (.t 43)),.none⟩,⟨(.some 45),(.faddr 4 (.t 44)),.none⟩,⟨(.some 46),(.load .any .false 1 (.t 45)),.none⟩,⟨(.some 47),(.appf .any 160 3 3 (.t 42) (.t 46)),.none⟩,⟨(.some 48),(.nilchk (.t 41)),.none⟩,⟨(.some 49),(.faddr 4 (.t 48)),.none⟩,⟨.none,(.store .any .false 1 (.t 49) (.t 47)),.none⟩]) (.seq (.reg [⟨(.some 9),(.mv (.c (.int .i64 0))),.none⟩]) (.seq (.seq (.reg [⟨(.some 50),(.mv (.t 8)),.none⟩,⟨(.some 51),(.nilchk (.t 50)),.none⟩,⟨(.some 52),(.faddr 4 (.t 51)),.none⟩,⟨(.some 53),(.load .any .false 1 (.t 52)),.none⟩,⟨(.some 54),(.len .false (.t 53)),.none⟩,⟨(.some 55),(.bin .gtr .false (.t 54) (.c (.int .i64 0))),.none⟩]) (.cond (.t 55) (.reg [⟨(.some 56),(.faddr 2 (.t 7)),.none⟩,⟨(.some 57),(.load (.root 7) .false 1 (.t 56)),.none⟩,⟨(.some 58),(.conv (.some .i64) (.t 57)),.none⟩,⟨(.some 59),(.mv (.t 8)),.none⟩,⟨(.some 60),(.nilchk (.t 59)),.none⟩,⟨(.some 61),(.faddr 4 (.t 60)),.none⟩,⟨(.some 62),(.load .any .false 1 (.t 61)),.none⟩,⟨(.some 63),(.len .false (.t 62)),.none⟩,⟨(.some 64),(.bin .rem .false (.t 58) (.t 63)),.none⟩,⟨(.some 9),(.mv (.t 64)),.none⟩]) .skip)) (.seq (.reg [⟨(.some 65),(.faddr 0 (.t 7)),.none⟩,⟨(.some 66),(.load .any .false 1 (.t 65)),.none⟩,⟨(.some 67),(.bin .rem .false (.t 66) (.c (.int .u8 8))),.none⟩]) wC))))))) (.reg [⟨(.some 25),(.mv (.t 6)),.none⟩,⟨(.some 26),(.bin .add .false (.t 25) (.c (.int .i64 1))),.none⟩,⟨(.some 6),(.mv (.t 26)),.none⟩])):=rfl
structure zW where
 kind:Int
 node:Int
 a:Int
 b:Int
def HW (c:zW):List AV:=[.int .u8 c.kind,.int .u8 c.node,.int .u8 c.a,.int .u8 c.b]
def zW.ok (c:zW):Prop:=u8 c.kind/\u8 c.node/\u8 c.a/\u8 c.b
def CJ (c:zW):List wA:=[⟨.int .u8 c.kind,.no⟩,⟨.int .u8 c.node,.no⟩,⟨.int .u8 c.a,.no⟩,⟨.int .u8 c.b,.no⟩]
abbrev Nd:=fC × wA
def KH (q:Nd):List wA:=[⟨.int .u8 q.1.k,.no⟩,⟨.int .u8 q.1.a,.no⟩,⟨.int .u8 q.1.b,.no⟩,⟨.int .u8 q.1.c,.no⟩,q.2]
def PA (xs:List Nd):List wA:=xs.flatMap KH
theorem xR:∀ xs:List Nd,(PA xs).length=xs.length * 5
 | []=>rfl
 | q :: r=>by
  have:=xR r;unfold PA at this ⊢;rw [List.flatMap_cons,yz,this,yF];simp [KH];omega
section
variable {xs:List Nd} {z:Nat}
include xs z
theorem uO {q:Nd} (h:xs[z]?=some q):PA xs=PA (xs.take z)++(KH q++PA (xs.drop (z + 1)))/\(PA (xs.take z)).length=z * 5:=by
 obtain ⟨hz,rfl⟩:=y9.1 h;refine ⟨?_,by rw [xR,yL]; omega⟩;have e:xs=xs.take z++(xs[z] :: xs.drop (z + 1)):=by rw [<- yb hz,List.take_append_drop]
 refine (congrArg PA e).trans ?_;unfold PA;rw [List.flatMap_append,List.flatMap_cons]
theorem ZE {q:Nd} (h:xs[z]?=some q) (o:Nat) (ho:o<5):(PA xs)[z * 5 + o]?=(KH q)[o]?:=by
 obtain ⟨h1,h2⟩:=uO h;rw [h1,yQ (by omega),h2,Nat.add_sub_cancel_left,yG (by simp [KH]; omega)]
theorem ndsRow_set {q q':Nd} (h:xs[z]?=some q) (o:Nat) (ho:o<5) (y:wA) (hq:(KH q).set o y=KH q'):(PA xs).set (z * 5 + o) y=PA (xs.set z q'):=by
 obtain ⟨h1,h2⟩:=uO h;have hz:=(y9.1 h).1;have h':(xs.set z q')[z]?=some q':=List.getElem?_set_self hz;obtain ⟨g1,g2⟩:=uO h';rw [h1,g1,List.set_append_right _ _ (by omega),h2,Nat.add_sub_cancel_left,List.set_append_left _ _ (by simp [KH]; omega),hq];rw [List.take_set_of_le (yj z),List.drop_set_of_lt (Nat.lt_succ_self z)]
theorem EE {q q':Nd} (h:xs[z]?=some q) (o:Nat) (ho:o<5) (v:AV) (a:An) (hv:v.leaf=true) (hq:(KH q).set o ⟨v,a⟩=KH q'):UA false 1 (z * 5 + o) (PA xs) v a=some (PA (xs.set z q')):=by
 have hz:=(y9.1 h).1;have hl:=xR xs;simp only [UA,hv];rw [<- ndsRow_set h o ho _ hq];simp;omega
end
def mW (x:wA):Option Nat:=match x.v with
 | .ref _ M _ _ _ _=>some M
 | _=>none
def PcI (M:Nat->Nat->Option (List wA)) (n:Nat) (x:wA):Prop :=
 (∃ (nl:Bool) (ps:List pQ) (a:An),x=⟨.sl nl (ps.map ND),a⟩/\(a=.no\/a=.ex)/\(∀ p∈ps,p.ok)/\ps.length * 3<=140737488355328) ∨
 ∃ (t N c:Nat) (ps:List pQ),x=⟨.ref t N 3 0 ps.length c,.no⟩/\(t=47\/t=168\/t=193)/\N<n/\M t N=some (kA (ps.map ND))/\(∀ p∈ps,p.ok)/\ps.length * 3<=140737488355328
def BC (n:Nat) (ex:Option Nat) (M M':Nat->Nat->Option (List wA)):Prop:=∀ (t N:Nat) (ps:List pQ),(t=47\/t=168\/t=193)->N<n->some N≠ex->M t N=some (kA (ps.map ND))->M' t N=some (kA (ps.map ND))
theorem BC.refl (n:Nat) (ex:Option Nat) (M:Nat->Nat->Option (List wA)):BC n ex M M:=fun _ _ _ _ _ _ h=>h
theorem BC.set {n:Nat} {ex:Option Nat} {M M':Nat->Nat->Option (List wA)} (h:BC n ex M M') {t' n':Nat} {r:List wA} (hn:n<=n'\/¬ (t'=47\/t'=168\/t'=193)):BC n ex M (XY M' t' n' r):=fun t N ps ht hN hx hm=>by
 rw [uB,if_neg]
 ·exact h t N ps ht hN hx hm
 ·rintro ⟨rfl,rfl⟩;rcases hn with hn | hn
  ·omega
  ·exact hn ht
theorem AN (ps:List pQ):UD (ps.map ND)=true:=DK ND ps fun p=>by simp [ND,AV.free0]
theorem fI (ps:List pQ):iB 3 (ps.map ND)=true:=KB _ _ _ fun _=>rfl
theorem BC.kill {n:Nat} {ex:Option Nat} {M M':Nat->Nat->Option (List wA)} (h:BC n ex M M') {t' n':Nat} (hn:ex=some n'):BC n ex M (C1 t' n' M'):=fun t N ps ht hN hx hm=>by
 rw [nB,if_neg,h t N ps ht hN hx hm]
 ·simp only [yr,PY (AN ps)]
 ·rintro ⟨rfl,rfl⟩;exact hx hn.symm
theorem PcI.pres {M M':Nat->Nat->Option (List wA)} {n n':Nat} {x:wA} (h:PcI M n x) {ex:Option Nat} (hp:BC n ex M M') (hn:n<=n') (hx:∀ N,mW x=some N->some N≠ex):PcI M' n' x:=by
 rcases h with h | ⟨t,N,c,ps,rfl,h1,h2,h3,h4,h5⟩
 ·exact .inl h
 ·exact .inr ⟨t,N,c,ps,rfl,h1,by omega,hp t N ps h1 h2 (hx N rfl) h3,h4,h5⟩
structure P5 (L:Nat) (M:Nat->Nat->Option (List wA)) (n:Nat) (xs:List Nd):Prop where
 len:xs.length=L
 row:M 13 2=some (PA xs)
 num:∀ q∈xs,u8 q.1.k/\u8 q.1.a/\u8 q.1.b/\u8 q.1.c
 pc:∀ q∈xs,PcI M n q.2
 dist:∀ (j k:Nat) (a b:Nd) (N:Nat),j≠k->xs[j]?=some a->xs[k]?=some b->mW a.2=some N->mW b.2=some N->False
theorem P5.upd {L:Nat} {M M':Nat->Nat->Option (List wA)} {n n':Nat} {xs:List Nd} (h:P5 L M n xs) {z:Nat} {q q':Nd} (hz:xs[z]?=some q) (na:M' 13 2=some (PA (xs.set z q'))) (bd:u8 q'.1.k/\u8 q'.1.a/\u8 q'.1.b/\u8 q'.1.c) (mg:PcI M' n' q'.2) (hp:BC n (mW q.2) M M') (hn:n<=n') (oc:mW q'.2=mW q.2\/∀ N,mW q'.2=some N->n<=N):P5 L M' n' (xs.set z q'):=by
 have ki:=(y9.1 hz).1;have hother:∀ (k:Nat) (b:Nd),k≠z->xs[k]?=some b->PcI M' n' b.2:=fun k b hk hb=>(h.pc b (yh hb)).pres hp hn fun N hN e=>h.dist k z b q N hk hb hz hN e.symm
 have mj:∀ (k:Nat) (b:Nd),(xs.set z q')[k]?=some b->(k=z/\b=q')\/(k≠z/\xs[k]?=some b):=fun k b hb=>by
  rw [List.getElem?_set] at hb;by_cases e:z=k
  ·rw [if_pos e,if_pos ki] at hb;injection hb with hb;exact .inl ⟨e.symm,hb.symm⟩
  ·rw [if_neg e] at hb;exact .inr ⟨fun h=>e h.symm,hb⟩
 have ug:∀ (b:Nd) (N:Nat),b∈xs->mW b.2=some N->N<n:=fun b N hb hN=>by
  rcases h.pc b hb with ⟨nl,ps,a,e,_⟩ | ⟨t,N',c,ps,e,_,h2,_⟩
  ·rw [e] at hN; simp [mW] at hN
  ·rw [e] at hN; simp [mW] at hN; omega
 refine ⟨by simp [h.len],na,fun b hb=>?_,fun b hb=>?_,fun j k a b N hjk ha hb pz hNb=>?_⟩
 ·obtain ⟨k,hk,rfl⟩:=yq hb;rcases mj k _ (y5 hk) with ⟨_,e⟩ | ⟨_,e⟩
  ·rw [e]; exact bd
  ·exact h.num _ (yh e)
 ·obtain ⟨k,hk,rfl⟩:=yq hb;rcases mj k _ (y5 hk) with ⟨_,e⟩ | ⟨zc,e⟩
  ·rw [e]; exact mg
  ·exact hother k _ zc e
 ·rcases mj j a ha with ⟨hj,rfl⟩ | ⟨hj,al⟩
  ·rcases mj k b hb with ⟨hk,rfl⟩ | ⟨hk,wa⟩
   ·omega
   ·rcases oc with e | e
    ·exact h.dist z k q b N (by omega) hz wa (by rw [<- e]; exact pz) hNb
    ·have:=e N pz;have:=ug b N (yh wa) hNb;omega
  ·rcases mj k b hb with ⟨hk,rfl⟩ | ⟨hk,wa⟩
   ·rcases oc with e | e
    ·exact h.dist j z a q N (by omega) al hz pz (by rw [<- e]; exact hNb)
    ·have:=e N hNb;have:=ug a N (yh al) pz;omega
   ·exact h.dist j k a b N hjk al wa pz hNb
theorem SV {L:Nat} {M:Nat->Nat->Option (List wA)} {n:Nat} {xs:List Nd} (h:P5 L M n xs) {z:Nat} {q:Nd} (hz:xs[z]?=some q) {t N:Nat} (hN:mW q.2=some N):(PA xs).map (wA.kill t N)=PA (xs.set z (q.1,q.2.kill t N)):=by
 have ki:=(y9.1 hz).1;have e1:xs.map (fun b:Nd=>((b.1,b.2.kill t N):Nd))=xs.set z (q.1,q.2.kill t N):=by
  refine List.ext_getElem? fun k=>?_
  rw [yc,List.getElem?_set];by_cases e:z=k
  ·subst e;rw [if_pos rfl,if_pos ki,hz];rfl
  ·rw [if_neg e];cases hk:xs[k]? with
   | none=>rfl
   | some b =>
    have hb:b.2.kill t N=b.2:=by
     rcases h.pc b (yh hk) with ⟨nl,ps,a,e',_⟩ | ⟨t',N',c,ps,e',_⟩
     ·rw [e'];show (⟨AV.kill t N (.sl nl (ps.map ND)),a⟩:wA)=_;rfl
     ·have ma:N'≠N:=fun e2=>h.dist k z b q N (fun e3=>e e3.symm) hk hz (by rw [e',e2]; rfl) hN
      rw [e'];simp [wA.kill_mk,AV.kill,AV.kill0,ma]
    simp only [yr,hb]
 rw [<- e1];unfold PA;rw [List.map_flatMap,List.flatMap_map];congr 1
structure p0 (cn:Bool) (cs:List zW) (L i:Nat) (xs:List Nd) (s:aA):Prop where
 e1:(s.env 1).v=.sl cn (cs.map HW)
 e4:(s.env 4).v=.ptr 4 1 0
 e5:(s.env 5).v=.ptr 5 2 0
 e6:(s.env 6).v=.int .i64 i
 m4:s.mem 4 1=some [⟨.sl true [],.ex⟩]
 m5:s.mem 5 2=some [⟨.ref 13 2 5 0 L L,.no⟩]
 nds:P5 L s.mem s.next xs
 nx:2<s.next
def OwnP (s:aA) (ps:List pQ) (pc:wA):Prop:=(ps=[]/\pc=⟨.sl false [],.ex⟩)\/(ps≠[]/\∃ N,pc=⟨.ref 47 N 3 0 ps.length ps.length,.no⟩/\N<s.next/\s.mem 47 N=some (kA (ps.map ND)))
structure ChT (cn:Bool) (cs:List zW) (L i:Nat) (xs:List Nd) (c:zW) (z:Nat) (x:fC) (pc:wA) (ps:List pQ) (s:aA):Prop where
 ch:p0 cn cs L i xs s
 e7:∃ n7,(s.env 7).v=.ptr 7 n7 0/\s.mem 7 n7=some (CJ c)
 e8:(s.env 8).v=.ptr 13 2 (z * 5)
 e9:∃ kk:Nat,(s.env 9).v=.int .i64 kk/\(ps≠[]->kk<ps.length)
 e67:(s.env 67).v=.int .u8 (c.kind % 8)
 hz:xs[z]?=some (x,pc)
 pcs:OwnP s ps pc
 ok:∀ p∈ps,p.ok
 sz:ps.length * 3<=140737488355328
theorem chg_head {r:RV} {cn:Bool} {cs:List zW} {L i:Nat} (hi:i<cs.length) (fc:cs.length<=9223372036854775807) (sa:∀ c∈cs,c.ok) (hL0:0<L) (hL1:L<=140737488355328) {xs:List Nd} {s:aA} (h:p0 cn cs L i xs s) (k:Ex->aA->Option RV)
  (hk:∀ s' xh c z x pc ps (kk:Ex->aA->Option RV),c∈cs->ChT cn cs L i xh c z x pc ps s'->(∀ s2 ni,p0 cn cs L i ni s2->kk .nrm s2=some r)->wC.run (dF jA tA) (RJ jA tA) s' kk=some r)
  (ih:∀ s' xh,p0 cn cs L (i + 1) xh s'->WI jA tA TC s' k=some r):WI jA tA TC s k=some r:=by
 obtain ⟨e1,e4,e5,e6,m4,m5,nds,nx⟩:=h;refine iA ?_;have ga:(i:Int)<cs.length:=by omega
 have g1:(cs.map HW)[i]?=some (HW cs[i]):=by simp [hi]
 have ji:=WB (i:=i);have rq:=y8 hi;have hco:=sa _ rq;generalize cs[i]=c at *
 obtain ⟨⟨k1,k2⟩,⟨n1,n2⟩,⟨a1,a2⟩,b1,b2⟩:=hco;simp only [HW] at g1;have ir:IntKind.i64.wrap c.node=c.node:=IntWalk.i64_in _ (by omega);have hwa:IntKind.i64.wrap c.a=c.a:=IntWalk.i64_in _ (by omega);have hm:c.node.tmod L=c.node % L:=yt (by omega);have ic:=yC c.node (b:=(L:Int)) (by omega);have dj:=yD c.node (b:=(L:Int)) (by omega);have h8:c.kind.tmod 8=c.kind % 8:=yt (by omega);have hLi:(0:Int)<L:=by omega
 have hLn:¬ L=0:=by omega
 generalize c.node % (L:Int)=zz at *
 have ki:zz.toNat<xs.length:=by rw [nds.len]; omega
 obtain ⟨q,hq⟩:∃ q,xs[zz.toNat]?=some q:=⟨_,y5 ki⟩;obtain ⟨x,pc⟩:=q;have bd:=nds.num _ (yh hq);have g46:(PA xs)[zz.toNat * 5 + 4]?=some pc:=ZE hq 4 (by omega);have cont:∀ (s2:aA) (ni:List Nd) (E:Nat->wA),p0 cn cs L i ni s2->s2.env=E->p0 cn cs L (i + 1) ni ⟨putE (putE (putE E 25 ⟨.int .i64 i,(E 6).a⟩) 26 ⟨.int .i64 ((i + 1:Nat):Int),.no⟩) 6 ⟨.int .i64 ((i + 1:Nat):Int),.no⟩,s2.mem,s2.next + 1,s2.obj,s2.gh⟩:=fun s2 ni E h he=>by
  subst he;obtain ⟨e1,e4,e5,e6,m4,m5,nds,nx⟩:=h;exact ⟨by simp [e1],by simp [e4],by simp [e5],by simp,m4,m5,⟨nds.len,nds.row,nds.num,fun q hq=>(nds.pc q hq).pres (ex:=none) (BC.refl _ _ _) (by dsimp only; omega) (by simp),nds.dist⟩,by dsimp only; omega⟩
 have fin:∀ (s':aA) (xh:List Nd) (pc':wA) (ps:List pQ),ChT cn cs L i xh c zz.toNat x pc' ps s'->wC.run (dF jA tA) (RJ jA tA) s' (blkK 1 (seqK (dF jA tA) (RJ jA tA) (.reg [⟨some 25,.mv (.t 6),none⟩,⟨some 26,.bin .add false (.t 25) (.c (.int .i64 1)),none⟩,⟨some 6,.mv (.t 26),none⟩]) (tL (WI jA tA) TC k)))=some r:=fun s' xh pc' ps hT=>by
  refine hk s' xh c _ x pc' ps _ rq hT (fun s2 ni h2=>?_);have e6:=h2.e6;simp [-J,-y4,-y3,y0,e6,ji];exact ih _ _ (cont s2 ni _ h2 rfl)
 rw [chg_L1];have mg:=nds.pc _ (yh hq);have sq:∃ ps:List pQ,(∀ p∈ps,p.ok)/\ps.length * 3<=140737488355328/\((∃ nl a,pc=⟨.sl nl (ps.map ND),a⟩)\/∃ t N c0,pc=⟨.ref t N 3 0 ps.length c0,.no⟩/\(t=47\/t=168\/t=193)/\N<s.next/\s.mem t N=some (kA (ps.map ND))):=by
  rcases mg with ⟨nl,ps,a,h1,_,h3,h4⟩ | ⟨t,N,c0,ps,h1,h2,h3,h4,h5,h6⟩
  ·exact ⟨ps,h3,h4,.inl ⟨nl,a,h1⟩⟩
  ·exact ⟨ps,h5,h6,.inr ⟨t,N,c0,h1,h2,h3,h4⟩⟩
 obtain ⟨ps,jo,iw,ay⟩:=sq;have sb:=nds.row;have sx:=EE (q':=(x,⟨.sl false [],.ex⟩)) hq 4 (by omega) (.sl false []) .ex rfl rfl;have sh:∀ n,UA false 1 (zz.toNat * 5 + 4) (PA xs) (.ref 47 n 3 0 ps.length ps.length) .no=some (PA (xs.set zz.toNat (x,⟨.ref 47 n 3 0 ps.length ps.length,.no⟩))):=fun n=>EE hq 4 (by omega) _ .no rfl rfl
 have hgz:∀ y,(xs.set zz.toNat (x,y))[zz.toNat]?=some (x,y):=fun y=>List.getElem?_set_self ki
 have hg0:=ZE (hgz ⟨.sl false [],.ex⟩) 4 (by omega);have hg1:∀ n,(PA (xs.set zz.toNat (x,⟨.ref 47 n 3 0 ps.length ps.length,.no⟩)))[zz.toNat * 5 + 4]?=some ⟨.ref 47 n 3 0 ps.length ps.length,.no⟩:=fun n=>ZE (hgz _) 4 (by omega)
 have hg0':(PA (xs.set zz.toNat (x,⟨.sl false [],.ex⟩)))[zz.toNat * 5 + 4]?=some ⟨.sl false [],.ex⟩:=hg0;clear hg0;have oa:ZA 3 ps.length=true:=by rw [xA]; omega
 have ph:ZA 3 0=true:=by decide
 have bj:zE (kA (ps.map ND)) 3 0 ps.length=some (ps.map ND):=by
  have:=mH (fI ps) (AN ps);simpa using this
 have q3:=fI ps;have fr:∀ (n':Nat) (M':Nat->Nat->Option (List wA)) (y:wA),PcI M' n' y->BC s.next (mW pc) s.mem M'->s.next<=n'->M' 13 2=some (PA (xs.set zz.toNat (x,y)))->(mW y=mW pc\/∀ N,mW y=some N->s.next<=N)->P5 L M' n' (xs.set zz.toNat (x,y)):=fun n' M' y h1 h2 h3 h4 h5=>nds.upd hq h4 bd h1 h2 h3 h5
 by_cases ma:ps=[]
 ·have hpc0:∀ M' n',PcI M' n' ⟨.sl false [],.ex⟩:=fun M' n'=>.inl ⟨false,[],.ex,rfl,.inr rfl,by simp,by simp⟩
  rcases ay with ⟨nl,a,rfl⟩ | ⟨t,N,c0,rfl,ht,hN,cw⟩
  ·subst ma;simp at g46;generalize dl:PA xs=R0 at *
   generalize zh:PA (xs.set zz.toNat (x,⟨.sl false [],.ex⟩))=R1 at *
   simp [-J,-y4,-y3,y0,-RB,-UA,qC,jC,fB,gB,e1,e4,e5,e6,m4,m5,sb,ga,g1,hLi,hLn,hL0,ir,hm,ic,dj,h8,g46,ji,sx,hg0',ph];refine fin _ (xs.set zz.toNat (x,⟨.sl false [],.ex⟩)) ⟨.sl false [],.ex⟩ [] ⟨⟨?_,?_,?_,?_,?_,?_,fr _ _ _ ?_ ?_ ?_ ?_ ?_,?_⟩,⟨s.next + 1,?_,?_⟩,?_,⟨0,?_,?_⟩,?_,hgz _,.inl ⟨rfl,rfl⟩,jo,iw⟩
   ·simp [e1]
   ·simp [e4]
   ·simp [e5]
   ·simp [e6]
   ·simp [m4]
   ·simp [m5]
   ·exact hpc0 _ _
   ·dsimp only
    repeat (first | exact BC.refl _ _ _ | refine BC.set ?_ (.inr (by decide)) | refine BC.set ?_ (.inl (by omega)))
   ·dsimp only; omega
   ·simp [zh]
   ·right;intro N hN;simp [mW] at hN
    try omega
   ·dsimp only; omega
   ·simp
   ·simp [CJ]
   ·simp
   ·simp
   ·first | (intro _; omega) | simp
   ·simp
  ·subst ma;simp at g46 cw bj;generalize dl:PA xs=R0 at *
   generalize zh:PA (xs.set zz.toNat (x,⟨.sl false [],.ex⟩))=R1 at *
   have h7:¬ t=7:=by omega
   simp [-J,-y4,-y3,y0,-RB,-UA,qC,jC,fB,gB,e1,e4,e5,e6,m4,m5,sb,ga,g1,hLi,hLn,hL0,ir,hm,ic,dj,h8,g46,ji,sx,hg0',ph,cw,bj,Cl.okMem,h7];refine fin _ (xs.set zz.toNat (x,⟨.sl false [],.ex⟩)) ⟨.sl false [],.ex⟩ [] ⟨⟨?_,?_,?_,?_,?_,?_,fr _ _ _ ?_ ?_ ?_ ?_ ?_,?_⟩,⟨s.next + 1,?_,?_⟩,?_,⟨0,?_,?_⟩,?_,hgz _,.inl ⟨rfl,rfl⟩,jo,iw⟩
   ·simp [e1]
   ·simp [e4]
   ·simp [e5]
   ·simp [e6]
   ·simp [m4]
   ·simp [m5]
   ·exact hpc0 _ _
   ·dsimp only
    repeat (first | exact BC.refl _ _ _ | refine BC.set ?_ (.inr (by decide)) | refine BC.set ?_ (.inl (by omega)))
   ·dsimp only; omega
   ·simp [zh]
   ·right;intro N hN;simp [mW] at hN
    try omega
   ·dsimp only; omega
   ·simp
   ·simp [CJ]
   ·simp
   ·simp
   ·first | (intro _; omega) | simp
   ·simp
 ·have gj:ps.isEmpty=false:=by simpa using ma
  have ui:0<ps.length:=Y02.2 ma;have nj:(0:Int)<ps.length:=by omega
  have hln:¬ ps.length=0:=by omega
  have hma:c.a.tmod ps.length=c.a % ps.length:=yt (by omega);have pm:=yC c.a (b:=(ps.length:Int)) (by omega);have od:=yD c.a (b:=(ps.length:Int)) (by omega);obtain ⟨kk,jb⟩:∃ kk:Nat,c.a % (ps.length:Int)=kk:=⟨(c.a % (ps.length:Int)).toNat,by omega⟩;rw [jb] at hma od;obtain ⟨R1,rz⟩:∃ R1:Nat->List wA,∀ n,PA (xs.set zz.toNat (x,⟨.ref 47 n 3 0 ps.length ps.length,.no⟩))=R1 n:=⟨_,fun n=>rfl⟩;simp only [rz] at sh hg1;rcases ay with ⟨nl,a,rfl⟩ | ⟨t,N,c0,rfl,ht,hN,cw⟩
  ·generalize dl:PA xs=R0 at *
   simp [-J,-y4,-y3,y0,-RB,-UA,qC,jC,fB,gB,e1,e4,e5,e6,m4,m5,sb,ga,g1,hLi,hLn,hL0,ir,hm,ic,dj,h8,g46,ji,sh,hg1,oa,q3,gj,ma,ui,nj,hln,hwa,hma];refine fin _ (xs.set zz.toNat (x,⟨.ref 47 (s.next + 3) 3 0 ps.length ps.length,.no⟩)) ⟨.ref 47 (s.next + 3) 3 0 ps.length ps.length,.no⟩ ps ⟨⟨?_,?_,?_,?_,?_,?_,fr _ _ _ ?_ ?_ ?_ ?_ ?_,?_⟩,⟨s.next + 1,?_,?_⟩,?_,⟨kk,?_,?_⟩,?_,hgz _,.inr ⟨ma,s.next + 3,rfl,by dsimp only; omega,by simp⟩,jo,iw⟩
   ·simp [e1]
   ·simp [e4]
   ·simp [e5]
   ·simp [e6]
   ·simp [m4]
   ·simp [m5]
   ·exact .inr ⟨47,s.next + 3,ps.length,ps,rfl,.inl rfl,by dsimp only; omega,by simp,jo,iw⟩
   ·dsimp only
    repeat (first | exact BC.refl _ _ _ | refine BC.set ?_ (.inr (by decide)) | refine BC.set ?_ (.inl (by omega)))
   ·dsimp only; omega
   ·simp [<- rz]
   ·right;intro N hN;simp [mW] at hN
    try omega
   ·dsimp only; omega
   ·simp
   ·simp [CJ]
   ·simp
   ·simp
   ·first | (intro _; omega) | simp
   ·simp
  ·generalize dl:PA xs=R0 at *
   have h7:¬ t=7:=by omega
   simp [-J,-y4,-y3,y0,-RB,-UA,qC,jC,fB,gB,e1,e4,e5,e6,m4,m5,sb,ga,g1,hLi,hLn,hL0,ir,hm,ic,dj,h8,g46,ji,sh,hg1,oa,q3,gj,ma,ui,nj,hln,hwa,hma,cw,bj,Cl.okMem,h7];refine fin _ (xs.set zz.toNat (x,⟨.ref 47 (s.next + 3) 3 0 ps.length ps.length,.no⟩)) ⟨.ref 47 (s.next + 3) 3 0 ps.length ps.length,.no⟩ ps ⟨⟨?_,?_,?_,?_,?_,?_,fr _ _ _ ?_ ?_ ?_ ?_ ?_,?_⟩,⟨s.next + 1,?_,?_⟩,?_,⟨kk,?_,?_⟩,?_,hgz _,.inr ⟨ma,s.next + 3,rfl,by dsimp only; omega,by simp⟩,jo,iw⟩
   ·simp [e1]
   ·simp [e4]
   ·simp [e5]
   ·simp [e6]
   ·simp [m4]
   ·simp [m5]
   ·exact .inr ⟨47,s.next + 3,ps.length,ps,rfl,.inl rfl,by dsimp only; omega,by simp,jo,iw⟩
   ·dsimp only
    repeat (first | exact BC.refl _ _ _ | refine BC.set ?_ (.inr (by decide)) | refine BC.set ?_ (.inl (by omega)))
   ·dsimp only; omega
   ·simp [<- rz]
   ·right;intro N hN;simp [mW] at hN
    try omega
   ·dsimp only; omega
   ·simp
   ·simp [CJ]
   ·simp
   ·simp
   ·first | (intro _; omega) | simp
   ·simp
section
theorem u8w (z:Int):u8 (IntKind.u8.wrap z):=by
 simp only [IntKind.wrap,IntKind.bits,IntKind.signed,u8];simp;omega
theorem S8 {α:Type} {xs:List α} {z:Nat} {q:α} (h:xs[z]?=some q):xs.set z q=xs:=by
 obtain ⟨hz,rfl⟩:=y9.1 h;exact List.set_getElem_self hz
theorem OwnP.pci {s:aA} {ps:List pQ} {pc:wA} (h:OwnP s ps pc) (ho:∀ p∈ps,p.ok) (hs:ps.length * 3<=140737488355328):PcI s.mem s.next pc:=by
 rcases h with ⟨rfl,rfl⟩ | ⟨_,N,rfl,h2,h3⟩
 ·exact .inl ⟨false,[],.ex,rfl,.inr rfl,by simp,by simp⟩
 ·exact .inr ⟨47,N,_,ps,rfl,.inl rfl,h2,h3,ho,hs⟩
section
variable {r:RV} {cn:Bool} {cs:List zW} {L i:Nat} {xs:List Nd} {c:zW} {z:Nat} {x:fC} {pc:wA} {ps:List pQ} {s:aA}
theorem sw0 (hc:c.ok) (hm:c.kind % 8=0) (h:ChT cn cs L i xs c z x pc ps s) (k:Ex->aA->Option RV) (hk:∀ s2 ni,p0 cn cs L i ni s2->k .nrm s2=some r):wC.run (dF jA tA) (RJ jA tA) s k=some r:=by
 obtain ⟨⟨e1,e4,e5,e6,m4,m5,nds,nx⟩,⟨n7,e7,m7⟩,e8,⟨kk,e9,jb⟩,e67,hz,pcs,ok,sz⟩:=h;rw [hm] at e67;have bd:=nds.num _ (yh hz);have sb:=nds.row;have g:=ZE hz 1 (by omega);have lc:∀ v,UA false 1 (z * 5 + 1) (PA xs) (.int .u8 v) .no=some (PA (xs.set z ({ x with a:=v },pc))):=fun v=>EE hz 1 (by omega) _ .no rfl rfl
 obtain ⟨R1,zh⟩:∃ R1:Int->List wA,∀ v,PA (xs.set z ({ x with a:=v },pc))=R1 v:=⟨_,fun v=>rfl⟩;simp only [zh] at lc;simp only [KH] at g;simp at g;generalize dl:PA xs=R0 at *
 simp only [CJ] at m7;have h7:∀ n,¬ (7=13/\n=2):=by simp
 simp [wC,-J,-y4,-y3,y0,-RB,-UA,qC,jC,fB,gB,e7,m7,e8,e67,sb,g,lc];refine hk _ (xs.set z ({ x with a:=IntKind.u8.wrap (IntKind.u8.wrap (x.a + c.a.tmod 5) - 2) },pc)) ⟨?_,?_,?_,?_,?_,?_,nds.upd hz ?_ ⟨bd.1,u8w _,bd.2.2⟩ ?_ ?_ ?_ (.inl rfl),?_⟩
 ·simp [e1]
 ·simp [e4]
 ·simp [e5]
 ·simp [e6]
 ·simp [m4]
 ·simp [m5]
 ·simp [zh]
 ·refine (pcs.pci ok sz).pres (ex:=none) ?_ (by dsimp only; omega) (by simp);exact BC.set (BC.refl _ _ _) (.inr (by decide))
 ·exact BC.set (BC.refl _ _ _) (.inr (by decide))
 ·dsimp only; omega
 ·dsimp only; omega
theorem sw1 (hc:c.ok) (hm:c.kind % 8=1) (h:ChT cn cs L i xs c z x pc ps s) (k:Ex->aA->Option RV) (hk:∀ s2 ni,p0 cn cs L i ni s2->k .nrm s2=some r):wC.run (dF jA tA) (RJ jA tA) s k=some r:=by
 obtain ⟨⟨e1,e4,e5,e6,m4,m5,nds,nx⟩,⟨n7,e7,m7⟩,e8,⟨kk,e9,jb⟩,e67,hz,pcs,ok,sz⟩:=h;rw [hm] at e67;have bd:=nds.num _ (yh hz);have sb:=nds.row;have g:=ZE hz 2 (by omega);have lc:∀ v,UA false 1 (z * 5 + 2) (PA xs) (.int .u8 v) .no=some (PA (xs.set z ({ x with b:=v },pc))):=fun v=>EE hz 2 (by omega) _ .no rfl rfl
 obtain ⟨R1,zh⟩:∃ R1:Int->List wA,∀ v,PA (xs.set z ({ x with b:=v },pc))=R1 v:=⟨_,fun v=>rfl⟩;simp only [zh] at lc;simp only [KH] at g;simp at g;generalize dl:PA xs=R0 at *
 simp only [CJ] at m7;have h7:∀ n,¬ (7=13/\n=2):=by simp
 simp [wC,-J,-y4,-y3,y0,-RB,-UA,qC,jC,fB,gB,e7,m7,e8,e67,sb,g,lc];refine hk _ (xs.set z ({ x with b:=IntKind.u8.wrap (IntKind.u8.wrap (x.b + c.b.tmod 5) - 2) },pc)) ⟨?_,?_,?_,?_,?_,?_,nds.upd hz ?_ ⟨bd.1,bd.2.1,u8w _,bd.2.2.2⟩ ?_ ?_ ?_ (.inl rfl),?_⟩
 ·simp [e1]
 ·simp [e4]
 ·simp [e5]
 ·simp [e6]
 ·simp [m4]
 ·simp [m5]
 ·simp [zh]
 ·refine (pcs.pci ok sz).pres (ex:=none) ?_ (by dsimp only; omega) (by simp);exact BC.set (BC.refl _ _ _) (.inr (by decide))
 ·exact BC.set (BC.refl _ _ _) (.inr (by decide))
 ·dsimp only; omega
 ·dsimp only; omega
theorem sw3 (hc:c.ok) (hm:c.kind % 8=3) (h:ChT cn cs L i xs c z x pc ps s) (k:Ex->aA->Option RV) (hk:∀ s2 ni,p0 cn cs L i ni s2->k .nrm s2=some r):wC.run (dF jA tA) (RJ jA tA) s k=some r:=by
 obtain ⟨⟨e1,e4,e5,e6,m4,m5,nds,nx⟩,⟨n7,e7,m7⟩,e8,⟨kk,e9,jb⟩,e67,hz,pcs,ok,sz⟩:=h;rw [hm] at e67;have bd:=nds.num _ (yh hz);have sb:=nds.row;have g:=ZE hz 3 (by omega);have lc:∀ v,UA false 1 (z * 5 + 3) (PA xs) (.int .u8 v) .no=some (PA (xs.set z ({ x with c:=v },pc))):=fun v=>EE hz 3 (by omega) _ .no rfl rfl
 obtain ⟨R1,zh⟩:∃ R1:Int->List wA,∀ v,PA (xs.set z ({ x with c:=v },pc))=R1 v:=⟨_,fun v=>rfl⟩;simp only [zh] at lc;simp only [KH] at g;simp at g;generalize dl:PA xs=R0 at *
 simp only [CJ] at m7;have h7:∀ n,¬ (7=13/\n=2):=by simp
 simp [wC,-J,-y4,-y3,y0,-RB,-UA,qC,jC,fB,gB,e7,m7,e8,e67,sb,g,lc];refine hk _ (xs.set z ({ x with c:=IntKind.u8.wrap (x.c + c.a) },pc)) ⟨?_,?_,?_,?_,?_,?_,nds.upd hz ?_ ⟨bd.1,bd.2.1,bd.2.2.1,u8w _⟩ ?_ ?_ ?_ (.inl rfl),?_⟩
 ·simp [e1]
 ·simp [e4]
 ·simp [e5]
 ·simp [e6]
 ·simp [m4]
 ·simp [m5]
 ·simp [zh]
 ·refine (pcs.pci ok sz).pres (ex:=none) ?_ (by dsimp only; omega) (by simp);exact BC.set (BC.refl _ _ _) (.inr (by decide))
 ·exact BC.set (BC.refl _ _ _) (.inr (by decide))
 ·dsimp only; omega
 ·dsimp only; omega
theorem sw2 (hc:c.ok) (hm:c.kind % 8=2) (h:ChT cn cs L i xs c z x pc ps s) (k:Ex->aA->Option RV) (hk:∀ s2 ni,p0 cn cs L i ni s2->k .nrm s2=some r):wC.run (dF jA tA) (RJ jA tA) s k=some r:=by
 obtain ⟨⟨e1,e4,e5,e6,m4,m5,nds,nx⟩,⟨n7,e7,m7⟩,e8,⟨kk,e9,jb⟩,e67,hz,pcs,ok,sz⟩:=h;rw [hm] at e67;have bd:=nds.num _ (yh hz);have sb:=nds.row;have g:=ZE hz 1 (by omega);have lc:∀ v,UA false 1 (z * 5 + 1) (PA xs) (.int .u8 v) .no=some (PA (xs.set z ({ x with a:=v },pc))):=fun v=>EE hz 1 (by omega) _ .no rfl rfl
 obtain ⟨R1,zh⟩:∃ R1:Int->List wA,∀ v,PA (xs.set z ({ x with a:=v },pc))=R1 v:=⟨_,fun v=>rfl⟩;simp only [zh] at lc;simp only [KH] at g;simp at g;generalize dl:PA xs=R0 at *
 simp only [CJ] at m7;have h7:∀ n,¬ (7=13/\n=2):=by simp
 have h6:c.a.tmod 6=c.a % 6:=yt hc.2.2.1.1;have h60:0<=c.a % 6:=yC _ (by omega);simp [wC,-J,-y4,-y3,y0,-RB,-UA,qC,jC,fB,gB,h6,h60,eS,e7,m7,e8,e67,sb,g,lc];refine hk _ (xs.set z ({ x with a:=IntKind.u8.wrap (((x.a % 2 ^ IntKind.u8.bits).toNat ^^^ (IntKind.u8.wrap (2 ^ shN IntKind.u8 (c.a % 6)) % 2 ^ IntKind.u8.bits).toNat:Nat):Int) },pc)) ⟨?_,?_,?_,?_,?_,?_,nds.upd hz ?_ ⟨bd.1,u8w _,bd.2.2⟩ ?_ ?_ ?_ (.inl rfl),?_⟩
 ·simp [e1]
 ·simp [e4]
 ·simp [e5]
 ·simp [e6]
 ·simp [m4]
 ·simp [m5]
 ·simp [zh]
 ·refine (pcs.pci ok sz).pres (ex:=none) ?_ (by dsimp only; omega) (by simp);exact BC.set (BC.refl _ _ _) (.inr (by decide))
 ·exact BC.set (BC.refl _ _ _) (.inr (by decide))
 ·dsimp only; omega
 ·dsimp only; omega
end
end
section
theorem BC.setX {n:Nat} {ex:Option Nat} {M M':Nat->Nat->Option (List wA)} (h:BC n ex M M') {t' n':Nat} {r:List wA} (hn:ex=some n'):BC n ex M (XY M' t' n' r):=fun t N ps ht hN hx hm=>by
 rw [uB,if_neg]
 ·exact h t N ps ht hN hx hm
 ·rintro ⟨rfl,rfl⟩;exact hx hn.symm
section
variable {r:RV} {cn:Bool} {cs:List zW} {L i:Nat} {xs:List Nd} {c:zW} {z:Nat} {x:fC} {pc:wA} {ps:List pQ} {s:aA}
theorem p0.nothing {E:Nat->wA} {n:Nat} (h:p0 cn cs L i xs s) (h1:(E 1).v=(s.env 1).v) (h4:(E 4).v=(s.env 4).v) (h5:(E 5).v=(s.env 5).v) (h6:(E 6).v=(s.env 6).v) (hn:s.next<=n):p0 cn cs L i xs ⟨E,s.mem,n,s.obj,s.gh⟩:=by
 obtain ⟨e1,e4,e5,e6,m4,m5,nds,nx⟩:=h;exact ⟨h1.trans e1,h4.trans e4,h5.trans e5,h6.trans e6,m4,m5,⟨nds.len,nds.row,nds.num,fun q hq=>(nds.pc q hq).pres (ex:=none) (BC.refl _ _ _) hn (by simp),nds.dist⟩,by dsimp only; omega⟩
theorem sw6 (hc:c.ok) (hm:c.kind % 8=6) (h:ChT cn cs L i xs c z x pc ps s) (k:Ex->aA->Option RV) (hk:∀ s2 ni,p0 cn cs L i ni s2->k .nrm s2=some r):wC.run (dF jA tA) (RJ jA tA) s k=some r:=by
 obtain ⟨ch,⟨n7,e7,m7⟩,e8,⟨kk,e9,jb⟩,e67,hz,pcs,ok,sz⟩:=h;have lz:=ch;obtain ⟨e1,e4,e5,e6,m4,m5,nds,nx⟩:=ch;rw [hm] at e67;have bd:=nds.num _ (yh hz);have sb:=nds.row;have g:=ZE hz 4 (by omega);simp only [KH] at g;simp at g;simp only [CJ] at m7;rcases pcs with ⟨rfl,rfl⟩ | ⟨ma,N,rfl,hN,py⟩
 ·generalize dl:PA xs=R0 at *
  simp [wC,-J,-y4,-y3,y0,-RB,-UA,qC,jC,fB,gB,e7,m7,e8,e67,sb,g];refine hk _ xs (lz.nothing ?_ ?_ ?_ ?_ ?_)
  ·simp
  ·simp
  ·simp
  ·simp
  ·omega
 ·have lg:=jb ma;have ui:0<ps.length:=Y02.2 ma;have nj:(0:Int)<ps.length:=by omega
  have hkli:(kk:Int)<ps.length:=by omega
  obtain ⟨p,hp⟩:∃ p,ps[kk]?=some p:=⟨_,y5 lg⟩;have lc:=W8 (fI ps) (k:=kk) (c:=ND p) (by rw [yc,hp]; rfl) (j:=2) (by simp [ND]) (x:=.int .u8 c.b) rfl 1;have hset:kA ((ps.map ND).set kk ((ND p).set 2 (.int .u8 c.b)))=kA ((ps.set kk { p with flag:=c.b }).map ND):=by
   rw [List.map_set]; rfl
  rw [hset] at lc;have jo:=ok p (yh hp);have ej:∀ q∈ps.set kk { p with flag:=c.b },q.ok:=fun q hq=>by
   rcases List.mem_or_eq_of_mem_set hq with hq | rfl
   ·exact ok q hq
   ·exact ⟨jo.1,jo.2.1,hc.2.2.2⟩
  generalize dl:PA xs=R0 at *
  generalize hR2:kA (ps.map ND)=R2 at *
  generalize hR3:kA ((ps.set kk { p with flag:=c.b }).map ND)=R3 at *
  have hN7:¬ (13=47/\2=N):=by simp
  simp [wC,-J,-y4,-y3,y0,-RB,-UA,qC,jC,fB,gB,e7,m7,e8,e9,e67,sb,g,ui,nj,lg,hkli,py,lc];refine hk _ (xs.set z (x,⟨.ref 47 N 3 0 ps.length ps.length,.no⟩)) ⟨?_,?_,?_,?_,?_,?_,nds.upd hz ?_ bd ?_ ?_ ?_ (.inl rfl),?_⟩
  ·simp [e1]
  ·simp [e4]
  ·simp [e5]
  ·simp [e6]
  ·simp [m4]
  ·simp [m5]
  ·rw [S8 hz];simp [sb,dl]
  ·refine .inr ⟨47,N,ps.length,ps.set kk { p with flag:=c.b },by simp,.inl rfl,by dsimp only; omega,by rw [hR3]; simp,ej,by simpa using sz⟩
  ·exact BC.setX (BC.refl _ _ _) rfl
  ·dsimp only; omega
  ·dsimp only; omega
theorem sw7 (hc:c.ok) (hm:c.kind % 8=7) (h:ChT cn cs L i xs c z x pc ps s) (k:Ex->aA->Option RV) (hk:∀ s2 ni,p0 cn cs L i ni s2->k .nrm s2=some r):wC.run (dF jA tA) (RJ jA tA) s k=some r:=by
 obtain ⟨ch,⟨n7,e7,m7⟩,e8,⟨kk,e9,jb⟩,e67,hz,pcs,ok,sz⟩:=h;have lz:=ch;obtain ⟨e1,e4,e5,e6,m4,m5,nds,nx⟩:=ch;rw [hm] at e67;have bd:=nds.num _ (yh hz);have sb:=nds.row;have g:=ZE hz 4 (by omega);simp only [KH] at g;simp at g;simp only [CJ] at m7;rcases pcs with ⟨rfl,rfl⟩ | ⟨ma,N,rfl,hN,py⟩
 ·generalize dl:PA xs=R0 at *
  simp [wC,-J,-y4,-y3,y0,-RB,-UA,qC,jC,fB,gB,e7,m7,e8,e67,sb,g];refine hk _ xs (lz.nothing ?_ ?_ ?_ ?_ ?_)
  ·simp
  ·simp
  ·simp
  ·simp
  ·omega
 ·have lg:=jb ma;have ui:0<ps.length:=Y02.2 ma;have nj:(0:Int)<ps.length:=by omega
  have hkli:(kk:Int)<ps.length:=by omega
  obtain ⟨p,hp⟩:∃ p,ps[kk]?=some p:=⟨_,y5 lg⟩;have lc:=W8 (fI ps) (k:=kk) (c:=ND p) (by rw [yc,hp]; rfl) (j:=1) (by simp [ND]) (x:=.int .u8 (IntKind.u8.wrap (p.ty + c.b))) rfl 1;have sr:=row_get1 (fI ps) (k:=kk) (c:=ND p) (by rw [yc,hp]; rfl) (j:=1) (v:=.int .u8 p.ty) (by simp [ND]) 1;rw [qC] at sr;have hset:kA ((ps.map ND).set kk ((ND p).set 1 (.int .u8 (IntKind.u8.wrap (p.ty + c.b)))))=kA ((ps.set kk { p with ty:=IntKind.u8.wrap (p.ty + c.b) }).map ND):=by
   rw [List.map_set]; rfl
  rw [hset] at lc;have jo:=ok p (yh hp);have ej:∀ q∈ps.set kk { p with ty:=IntKind.u8.wrap (p.ty + c.b) },q.ok:=fun q hq=>by
   rcases List.mem_or_eq_of_mem_set hq with hq | rfl
   ·exact ok q hq
   ·exact ⟨jo.1,u8w _,jo.2.2⟩
  generalize dl:PA xs=R0 at *
  generalize hR2:kA (ps.map ND)=R2 at *
  generalize hR3:kA ((ps.set kk { p with ty:=IntKind.u8.wrap (p.ty + c.b) }).map ND)=R3 at *
  have hN7:¬ (13=47/\2=N):=by simp
  simp [wC,-J,-y4,-y3,y0,-RB,-UA,qC,jC,fB,gB,e7,m7,e8,e9,e67,sb,g,ui,nj,lg,hkli,py,lc,sr];refine hk _ (xs.set z (x,⟨.ref 47 N 3 0 ps.length ps.length,.no⟩)) ⟨?_,?_,?_,?_,?_,?_,nds.upd hz ?_ bd ?_ ?_ ?_ (.inl rfl),?_⟩
  ·simp [e1]
  ·simp [e4]
  ·simp [e5]
  ·simp [e6]
  ·simp [m4]
  ·simp [m5]
  ·rw [S8 hz];simp [sb,dl]
  ·refine .inr ⟨47,N,ps.length,ps.set kk { p with ty:=IntKind.u8.wrap (p.ty + c.b) },by simp,.inl rfl,by dsimp only; omega,by rw [hR3]; simp,ej,by simpa using sz⟩
  ·exact BC.setX (BC.refl _ _ _) rfl
  ·dsimp only; omega
  ·dsimp only; omega
theorem sw4 (hc:c.ok) (hm:c.kind % 8=4) (h:ChT cn cs L i xs c z x pc ps s) (k:Ex->aA->Option RV) (hk:∀ s2 ni,p0 cn cs L i ni s2->k .nrm s2=some r):wC.run (dF jA tA) (RJ jA tA) s k=some r:=by
 obtain ⟨ch,⟨n7,e7,m7⟩,e8,⟨kk,e9,jb⟩,e67,hz,pcs,ok,sz⟩:=h;have lz:=ch;obtain ⟨e1,e4,e5,e6,m4,m5,nds,nx⟩:=ch;rw [hm] at e67;have bd:=nds.num _ (yh hz);have sb:=nds.row;have g:=ZE hz 4 (by omega);simp only [KH] at g;simp at g;simp only [CJ] at m7;obtain ⟨pt,hc2,hc3,hc4⟩:=hc;have ro:u8 (IntKind.u8.wrap (c.a.tdiv 12)):=u8w _;have hq:(⟨c.a,c.b,IntKind.u8.wrap (c.a.tdiv 12)⟩:pQ).ok:=⟨hc3,hc4,ro⟩;generalize nr:IntKind.u8.wrap (c.a.tdiv 12)=fl at *
 have lc:∀ n l y,(xs.set z (x,y))[z]?=some (x,y)->UA false 1 (z * 5 + 4) (PA (xs.set z (x,y))) (.ref 168 n 3 0 l l) .no=some (PA (xs.set z (x,⟨.ref 168 n 3 0 l l,.no⟩))):=fun n l y hy=>by
  rw [EE hy 4 (by omega) _ .no rfl rfl (q':=(x,⟨.ref 168 n 3 0 l l,.no⟩)),List.set_set]
 have ki:=(y9.1 hz).1;have room3:ZA 3 1=true:=by decide
 rcases pcs with ⟨rfl,rfl⟩ | ⟨ma,N,rfl,hN,py⟩
 ·have sh:∀ n l,UA false 1 (z * 5 + 4) (PA xs) (.ref 168 n 3 0 l l) .no=some (PA (xs.set z (x,⟨.ref 168 n 3 0 l l,.no⟩))):=fun n l=>EE hz 4 (by omega) _ .no rfl rfl
  obtain ⟨R1,zh⟩:∃ R1:Nat->Nat->List wA,∀ n l,PA (xs.set z (x,⟨.ref 168 n 3 0 l l,.no⟩))=R1 n l:=⟨_,fun n l=>rfl⟩;simp only [zh] at sh;generalize dl:PA xs=R0 at *
  simp [wC,-J,-y4,-y3,y0,-RB,-UA,qC,jC,fB,gB,e7,m7,e8,e67,sb,g,room3,sh,nr];refine hk _ (xs.set z (x,⟨.ref 168 (s.next + 6) 3 0 1 1,.no⟩)) ⟨?_,?_,?_,?_,?_,?_,nds.upd hz ?_ bd ?_ ?_ ?_ (.inr fun M hM=>?_),?_⟩
  ·simp [e1]
  ·simp [e4]
  ·simp [e5]
  ·simp [e6]
  ·simp [m4]
  ·simp [m5]
  ·simp [zh]
  ·refine .inr ⟨168,s.next + 6,1,[⟨c.a,c.b,fl⟩],rfl,.inr (.inl rfl),by dsimp only; omega,by simp [ND],by simpa using hq,by simp⟩
  ·exact BC.set (BC.set (BC.refl _ _ _) (.inl (by omega))) (.inr (by decide))
  ·dsimp only; omega
  ·simp [mW] at hM; omega
  ·dsimp only; omega
 ·by_cases h8:ps.length<8
  ·have h8i:(ps.length:Int)<8:=by omega
   have lg:=SV nds hz (t:=47) (N:=N) rfl;have hkl':(PA xs).map (wA.kill 47 N)=PA (xs.set z (x,⟨.undef,.no⟩)):=by
    rw [lg];simp [wA.kill_mk,AV.kill,AV.kill0]
   have sh:∀ n,UA false 1 (z * 5 + 4) ((PA xs).map (wA.kill 47 N)) (.ref 168 n 3 0 (ps.length + 1) (ps.length + 1)) .no=some (PA (xs.set z (x,⟨.ref 168 n 3 0 (ps.length + 1) (ps.length + 1),.no⟩))):=fun n=>by
    rw [hkl'];exact lc n (ps.length + 1) _ (List.getElem?_set_self ki)
   obtain ⟨R1,zh⟩:∃ R1:Nat->List wA,∀ n,PA (xs.set z (x,⟨.ref 168 n 3 0 (ps.length + 1) (ps.length + 1),.no⟩))=R1 n:=⟨_,fun n=>rfl⟩;simp only [zh] at sh;have q3:=fI ps;have bj:zE (kA (ps.map ND)) 3 0 ps.length=some (ps.map ND):=by
    have:=mH (fI ps) (AN ps);simpa using this
   have oa:ZA 3 (ps.length + 1)=true:=by rw [xA]; omega
   have wi:kA (ps.map ND++[[AV.int .u8 c.a,AV.int .u8 c.b,AV.int .u8 fl]])=kA ((ps++[(⟨c.a,c.b,fl⟩:pQ)]).map ND):=by simp [ND]
   generalize dl:PA xs=R0 at *
   generalize hR2:kA (ps.map ND)=R2 at *
   have ui:0<ps.length:=Y02.2 ma;simp [wC,-J,-y4,-y3,y0,-RB,-UA,qC,jC,fB,gB,e7,m7,e8,e67,sb,g,sh,nr,h8,h8i,py,bj,oa,q3,Cl.okMem];refine hk _ (xs.set z (x,⟨.ref 168 (s.next + 6) 3 0 (ps.length + 1) (ps.length + 1),.no⟩)) ⟨?_,?_,?_,?_,?_,?_,nds.upd hz ?_ bd ?_ ?_ ?_ (.inr fun M hM=>?_),?_⟩
   ·simp [e1]
   ·simp [e4]
   ·simp [e5]
   ·simp [e6]
   ·simp [m4]
   ·simp [m5]
   ·simp [zh]
   ·refine .inr ⟨168,s.next + 6,ps.length + 1,ps++[⟨c.a,c.b,fl⟩],by simp,.inr (.inl rfl),by dsimp only; omega,by rw [<- wi]; simp,?_,by simp; omega⟩;intro p hp;rcases yx.1 hp with hp | hp
    ·exact ok p hp
    ·simp at hp;rw [hp];exact hq
   ·exact BC.set (BC.set (BC.kill (BC.refl _ _ _) rfl) (.inl (by omega))) (.inr (by decide))
   ·dsimp only; omega
   ·simp [mW] at hM; omega
   ·dsimp only; omega
  ·have h8i:¬ (ps.length:Int)<8:=by omega
   generalize dl:PA xs=R0 at *
   simp [wC,-J,-y4,-y3,y0,-RB,-UA,qC,jC,fB,gB,e7,m7,e8,e67,sb,g,h8,h8i];refine hk _ xs (lz.nothing ?_ ?_ ?_ ?_ ?_)
   ·simp
   ·simp
   ·simp
   ·simp
   ·omega
end
end
section
theorem OY {sz:Nat} {L:List (List AV)} (h:iB sz L=true) (hf:UD L=true) {a b:Nat} (ig:a + b<=L.length):zE (kA L) sz (a * sz) b=some ((L.drop a).take b):=by
 have h1:=mH h hf;have hl:=QH h;unfold zE at h1 ⊢;split at h1
 case isFalse=>cases h1
 rename_i hc;injection h1 with h1;have bc:a * sz + b * sz<=(kA L).length:=by
  rw [hl,<- Nat.add_mul];exact yZ _ ig
 rw [if_pos ⟨bc,hc.2⟩];congr 1;refine List.ext_getElem? fun i=>?_
 by_cases hi:i<b
 ·have e1:=congrArg (·[a + i]?) h1;simp only [yc] at e1;rw [List.getElem?_range (by omega)] at e1;rw [yc,List.getElem?_range hi,yV,if_pos hi,yU,<- e1];simp only [yr,yK,Nat.add_mul]
 ·rw [yY (by simp; omega),yY (by simp; omega)]
section
variable {r:RV} {cn:Bool} {cs:List zW} {L i:Nat} {xs:List Nd} {c:zW} {z:Nat} {x:fC} {pc:wA} {ps:List pQ} {s:aA}
theorem sw5 (hc:c.ok) (hm:c.kind % 8=5) (h:ChT cn cs L i xs c z x pc ps s) (k:Ex->aA->Option RV) (hk:∀ s2 ni,p0 cn cs L i ni s2->k .nrm s2=some r):wC.run (dF jA tA) (RJ jA tA) s k=some r:=by
 obtain ⟨ch,⟨n7,e7,m7⟩,e8,⟨kk,e9,jb⟩,e67,hz,pcs,ok,sz⟩:=h;have lz:=ch;obtain ⟨e1,e4,e5,e6,m4,m5,nds,nx⟩:=ch;rw [hm] at e67;have bd:=nds.num _ (yh hz);have sb:=nds.row;have g:=ZE hz 4 (by omega);simp only [KH] at g;simp at g;simp only [CJ] at m7;have ki:=(y9.1 hz).1;rcases pcs with ⟨rfl,rfl⟩ | ⟨ma,N,rfl,hN,py⟩
 ·generalize dl:PA xs=R0 at *
  simp [wC,-J,-y4,-y3,y0,-RB,-UA,qC,jC,fB,gB,e7,m7,e8,e67,sb,g];refine hk _ xs (lz.nothing ?_ ?_ ?_ ?_ ?_)
  ·simp
  ·simp
  ·simp
  ·simp
  ·omega
 ·have lg:=jb ma;have ui:0<ps.length:=Y02.2 ma;have nj:(0:Int)<ps.length:=by omega
  have hwk:=WB (i:=kk);have hkle:kk<=ps.length:=by omega
  have pm:(0:Int)<=(kk:Int) + 1:=by omega
  have iu:=SV nds hz (t:=47) (N:=N) rfl;have hkill':(PA xs).map (wA.kill 47 N)=PA (xs.set z (x,⟨.undef,.no⟩)):=by
   rw [iu];simp [wA.kill_mk,AV.kill,AV.kill0]
  have sh:∀ n l,UA false 1 (z * 5 + 4) ((PA xs).map (wA.kill 47 N)) (.ref 193 n 3 0 l l) .no=some (PA (xs.set z (x,⟨.ref 193 n 3 0 l l,.no⟩))):=fun n l=>by
   have hs:=EE (show (xs.set z (x,(⟨.undef,.no⟩:wA)))[z]?=some (x,⟨.undef,.no⟩) from List.getElem?_set_self ki) 4 (by omega) (.ref 193 n 3 0 l l) .no rfl (q':=(x,⟨.ref 193 n 3 0 l l,.no⟩)) rfl;rw [hkill',hs,List.set_set]
  obtain ⟨R1,zh⟩:∃ R1:Nat->Nat->List wA,∀ n l,PA (xs.set z (x,⟨.ref 193 n 3 0 l l,.no⟩))=R1 n l:=⟨_,fun n l=>rfl⟩;simp only [zh] at sh;have q1:=fI (ps.take kk);have q2:=fI (ps.drop (kk + 1));have hre1:zE (kA (ps.map ND)) 3 0 kk=some ((ps.take kk).map ND):=by
   have:=OY (fI ps) (AN ps) (a:=0) (b:=kk) (by simp; omega);simpa [List.map_take] using this
  have hre2:zE (kA (ps.map ND)) 3 ((kk + 1) * 3) (ps.length - (kk + 1))=some ((ps.drop (kk + 1)).map ND):=by
   have:=OY (fI ps) (AN ps) (a:=kk + 1) (b:=ps.length - (kk + 1)) (by simp; omega);rw [this,List.map_drop,yB (by simp)]
  have oa:ZA 3 (kk + (ps.length - (kk + 1)))=true:=by rw [xA]; omega
  have ph:ZA 3 kk=true:=by rw [xA]; omega
  have ej:∀ q∈ps.take kk++ps.drop (kk + 1),q.ok:=fun q hq=>by
   rcases yx.1 hq with hq | hq
   ·exact ok q (List.mem_of_mem_take hq)
   ·exact ok q (List.mem_of_mem_drop hq)
  have hrr:kA ((ps.take kk).map ND++(ps.drop (kk + 1)).map ND)=kA ((ps.take kk++ps.drop (kk + 1)).map ND):=by rw [yH]
  have aw:(ps.take kk).length=kk:=by rw [yL]; omega
  have gq:(ps.drop (kk + 1)).length=ps.length - (kk + 1):=List.length_drop;have ia:(ps.take kk++ps.drop (kk + 1)).length=kk + (ps.length - (kk + 1)):=by rw [yz,aw,gq]
  generalize hT:ps.take kk=T at *
  generalize hD:ps.drop (kk + 1)=D at *
  generalize dl:PA xs=R0 at *
  generalize hR2:kA (ps.map ND)=R2 at *
  by_cases fq:ps.length=kk + 1
  ·have hD0:D=[]:=yM (by omega);subst hD0;simp only [List.append_nil] at ej;simp [wC,-J,-y4,-y3,y0,-RB,-UA,qC,jC,fB,gB,e7,m7,e8,e9,e67,sb,g,sh,ui,nj,hkle,pm,hwk,py,fq,hre1,ph,q1,Cl.okMem,pJ];refine hk _ (xs.set z (x,⟨.ref 193 (s.next + 7) 3 0 (kk) (kk),.no⟩)) ⟨?_,?_,?_,?_,?_,?_,nds.upd hz ?_ bd ?_ ?_ ?_ (.inr fun M hM=>?_),?_⟩
   ·simp [e1]
   ·simp [e4]
   ·simp [e5]
   ·simp [e6]
   ·simp [m4]
   ·simp [m5]
   ·simp [zh]
   ·refine .inr ⟨193,s.next + 7,kk,T,by rw [aw],.inr (.inr rfl),by dsimp only; omega,by simp,ej,by rw [aw]; omega⟩
   ·exact BC.set (BC.set (BC.kill (BC.refl _ _ _) rfl) (.inl (by omega))) (.inr (by decide))
   ·dsimp only; omega
   ·simp [mW] at hM; omega
   ·dsimp only; omega
  ·have h1:kk + 1<=ps.length:=by omega
   simp [wC,-J,-y4,-y3,y0,-RB,-UA,qC,jC,fB,gB,e7,m7,e8,e9,e67,sb,g,sh,ui,nj,hkle,pm,hwk,py,fq,h1,hre1,hre2,oa,q1,q2,gq,Cl.okMem,pJ];refine hk _ (xs.set z (x,⟨.ref 193 (s.next + 7) 3 0 (kk + (ps.length - (kk + 1))) (kk + (ps.length - (kk + 1))),.no⟩)) ⟨?_,?_,?_,?_,?_,?_,nds.upd hz ?_ bd ?_ ?_ ?_ (.inr fun M hM=>?_),?_⟩
   ·simp [e1]
   ·simp [e4]
   ·simp [e5]
   ·simp [e6]
   ·simp [m4]
   ·simp [m5]
   ·simp [zh]
   ·refine .inr ⟨193,s.next + 7,kk + (ps.length - (kk + 1)),T++D,by rw [ia],.inr (.inr rfl),by dsimp only; omega,by rw [<- hrr]; simp,ej,by rw [ia]; omega⟩
   ·exact BC.set (BC.set (BC.kill (BC.refl _ _ _) rfl) (.inl (by omega))) (.inr (by decide))
   ·dsimp only; omega
   ·simp [mW] at hM; omega
   ·dsimp only; omega
theorem sw_ev (hc:c.ok) (h:ChT cn cs L i xs c z x pc ps s) (k:Ex->aA->Option RV) (hk:∀ s2 ni,p0 cn cs L i ni s2->k .nrm s2=some r):wC.run (dF jA tA) (RJ jA tA) s k=some r:=by
 have h0:=yC c.kind (b:=8) (by omega);have h1:=yD c.kind (b:=8) (by omega);by_cases m0:c.kind % 8=0
 ·exact sw0 hc m0 h k hk
 by_cases m1:c.kind % 8=1
 ·exact sw1 hc m1 h k hk
 by_cases m2:c.kind % 8=2
 ·exact sw2 hc m2 h k hk
 by_cases m3:c.kind % 8=3
 ·exact sw3 hc m3 h k hk
 by_cases m4:c.kind % 8=4
 ·exact sw4 hc m4 h k hk
 by_cases m5:c.kind % 8=5
 ·exact sw5 hc m5 h k hk
 by_cases m6:c.kind % 8=6
 ·exact sw6 hc m6 h k hk
 ·exact sw7 hc (by omega) h k hk
end
end
theorem rowRaw_v {R R':List wA} (h:R.map (·.v)=R'.map (·.v)) (sz off len:Nat):uH R sz off len=uH R' sz off len:=by
 have hl:R.length=R'.length:=by simpa using congrArg List.length h
 unfold uH;rw [hl];split
 ·congr 1;refine yw fun i _=>?_
  rw [List.map_take,List.map_take,List.map_drop,List.map_drop,h]
 ·rfl
theorem frz_rowV {s:aA} {t n sz c:Nat} {L:List (List AV)} {R:List wA} (h:iB sz L=true) (hm:s.mem t n=some R) (hv:R.map (·.v)=(kA L).map (·.v)) (hf:(L.map fun c=>c.map (AV.frz1 s)).flatten.all AV.free0=true):AV.frz0 s (.ref t n sz 0 L.length c)=.sl false (L.map fun c=>c.map (AV.frz1 s)):=by
 have hr:uH R sz 0 L.length=some L:=by
  rw [rowRaw_v hv];exact aG fun c hc=>by simpa using y6.1 h c hc
 have ul:R.all (fun x=>x.v.free0)=(kA L).all (fun x=>x.v.free0):=by
  have e:∀ q:List wA,q.all (fun x=>x.v.free0)=(q.map (·.v)).all AV.free0:=fun q=>by rw [List.all_map]; rfl
  rw [e,e,hv]
 simp only [AV.frz0,hm,J,N2,ul];by_cases za:(kA L).all (fun x=>x.v.free0)=true
 ·rw [if_pos za,hr];have:(L.map fun c=>c.map (AV.frz1 s))=L.map id:=yw fun c hc=>by
   have:c.map (AV.frz1 s)=c.map id:=yw fun v hv=>I1 (by
    have:=y6.1 za ⟨v,.no⟩ (yp.2 ⟨v,List.mem_flatten.2 ⟨c,hc,hv⟩,rfl⟩);exact this)
   rwa [List.map_id] at this
  rw [this,List.map_id]
 ·rw [if_neg za];simp only [N4,hr,J];rw [if_pos hf]
def ndC (q:Nd):List AV:=(KH q).map (·.v)
theorem O7:∀ xs:List Nd,(PA xs).map (·.v)=(kA (xs.map ndC)).map (·.v)
 | []=>rfl
 | q :: r=>by
  have:=O7 r;unfold PA kA at this ⊢;simp only [List.flatMap_cons,yH,yf,yI];rw [this];simp [ndC]
def fC.sized (x:fC):Prop:=x.parts.length * 3<=140737488355328
theorem nd_frz2 {L:Nat} {s:aA} {xs:List Nd} (h:P5 L s.mem s.next xs):∀ ys:List Nd,(∀ q∈ys,q∈xs)->∃ l':List fC,(∀ x∈l',x.ok/\x.sized)/\((ys.map ndC).map fun c=>c.map (AV.frz1 s))=l'.map sD
 | [],_=>⟨[],by simp,rfl⟩
 | q :: r,hq=>by
  obtain ⟨l',h1,h2⟩:=nd_frz2 h r fun b hb=>hq b (by simp [hb])
  have hm:=hq q (by simp);have hn:=h.num q hm;have hx:∃ x':fC,(x'.ok/\x'.sized)/\(ndC q).map (AV.frz1 s)=sD x':=by
   rcases h.pc q hm with ⟨nl,ps,a,e,_,h3,h4⟩ | ⟨t,N,c,ps,e,_,_,h3,h4,h5⟩
   ·refine ⟨⟨q.1.k,q.1.a,q.1.b,q.1.c,nl,ps⟩,⟨⟨hn.1,hn.2.1,hn.2.2.1,hn.2.2.2,by dsimp only; omega,h3⟩,by unfold fC.sized; dsimp only; omega⟩,?_⟩;simp [ndC,KH,e,AV.frz1,sD]
   ·refine ⟨⟨q.1.k,q.1.a,q.1.b,q.1.c,false,ps⟩,⟨⟨hn.1,hn.2.1,hn.2.2.1,hn.2.2.2,by dsimp only; omega,h4⟩,by unfold fC.sized; dsimp only; omega⟩,?_⟩;have:=mH (fI ps) (AN ps);simp only [yu] at this;simp [ndC,KH,e,AV.frz1,sD,h3,this]
  obtain ⟨x',h3,h4⟩:=hx;refine ⟨x' :: l',?_,?_⟩
  ·intro y hy;rcases yg.1 hy with rfl | hy
   ·exact h3
   ·exact h1 y hy
  ·simp only [yf,h4,h2]
def ChE2 (n:Nat) (e:Ex) (s:aA):Prop:=e=.ret/\(s.env 4).v=.ptr 4 1 0/\((n=0/\s.mem 4 1=some [⟨.sl false [],.no⟩])\/∃ xs,s.mem 4 1=some [⟨.ref 13 2 5 0 n n,.no⟩]/\P5 n s.mem s.next xs)
section
variable {dn cn:Bool} {l:List fC} (hx:∀ x∈l,x.ok/\x.sized) (hl:l.length * 32<=140737488355328) {cs:List zW} (hc:∀ c∈cs,c.ok) (fc:cs.length<=9223372036854775807)
include dn cn l hx hl cs hc fc
theorem B3 (k:Ex->aA->Option RV) (r:RV) (hk:∀ e s',ChE2 l.length e s'->k e s'=some r):gE.code.run (dF jA tA) (RJ jA tA) (aA.init [.agg (uG dn l),.sl cn (cs.map HW)] none) k=some r:=by
 have ph:ZA 32 0=true:=by decide
 by_cases ma:l=[]
 ·subst ma;simp [gE,uG,-J,-y4,-y3,y0,ph];refine RA 0 (fun _ s=>(s.env 1).v=.sl cn (cs.map HW)/\(s.env 4).v=.ptr 4 1 0/\(s.env 5).v=.ptr 5 2 0/\(s.env 6).v=.int .i64 0/\s.mem 4 1=some [⟨.sl true [],.ex⟩]/\s.mem 5 2=some [⟨.sl false [],.no⟩])
   (fun e s=>e=.exit 0/\(s.env 4).v=.ptr 4 1 0/\(s.env 5).v=.ptr 5 2 0/\s.mem 4 1=some [⟨.sl true [],.ex⟩]/\s.mem 5 2=some [⟨.sl false [],.no⟩]) (fun i hi s k h ih hk=>?_) _ _ ?_ (fun e s h=>?_)
  ·obtain ⟨e1,e4,e5,e6,m4,m5⟩:=h;refine iA ?_;by_cases h0:cs=[]
   ·subst h0;simp at e1;simp [TC,-J,-y4,-y3,y0,e1,e5,e6,m5];exact hk _ _ ⟨rfl,by simp [e4],by simp [e5],m4,m5⟩
   ·have h1:(0:Int)<cs.length:=by have:=Y02.2 h0; omega
    have h2:=Y02.2 h0;simp [TC,-J,-y4,-y3,y0,e1,e5,e6,m5,h1,h2];exact hk _ _ ⟨rfl,by simp [e4],by simp [e5],m4,m5⟩
  ·refine ⟨?_,?_,?_,?_,?_,?_⟩ <;> simp
  ·obtain ⟨rfl,e4,e5,m4,m5⟩:=h;simp [-J,-y4,-y3,y0,e4,e5,m4,m5];exact hk _ _ ⟨rfl,by simp [e4],.inl ⟨by simp,by simp⟩⟩
 ·have ui:=Y02.2 ma;have nj:(0:Int)<l.length:=by omega
  have gj:l.isEmpty=false:=by simpa using ma
  have oa:ZA 32 l.length=true:=by rw [xA]; omega
  have pf:iB 5 (l.map sD)=true:=KB _ _ _ fun _=>rfl
  simp [gE,uG,-J,-y4,-y3,y0,oa,pf,gj,ma];refine RA cs.length (fun i s=>∃ xs,p0 cn cs l.length i xs s)
   (fun e s=>e=.exit 0/\∃ xs,p0 cn cs l.length cs.length xs s) (fun i hi s k h ih hk=>?_) _ _ ?_ (fun e s h=>?_)
  ·obtain ⟨xs,h⟩:=h;by_cases fa:i<cs.length
   ·refine chg_head fa fc hc ui (by omega) h k (fun s' xh c z x pc ps kk rq hT jb=>sw_ev (hc c rq) hT kk jb) (fun s' xh h'=>ih fa s' ⟨xh,h'⟩)
   ·have wd:i=cs.length:=by omega
    have ga:¬ (i:Int)<cs.length:=by omega
    refine iA ?_;have e1:=h.e1;have e6:=h.e6;simp [TC,-J,-y4,-y3,y0,e1,e6,ga];rw [<- wd];refine hk _ _ ⟨rfl,xs,?_⟩;rw [<- wd];exact h.nothing (by simp) (by simp) (by simp) (by simp) (by omega)
  ·refine ⟨l.map fun x=>(x,⟨.sl x.pn (x.parts.map ND),.no⟩),⟨?_,?_,?_,?_,?_,?_,⟨by simp,?_,?_,?_,?_⟩,?_⟩⟩
   ·simp
   ·simp
   ·simp
   ·simp
   ·simp
   ·simp
   ·have:kA (l.map sD)=PA (l.map fun x=>(x,⟨.sl x.pn (x.parts.map ND),.no⟩)):=by
     unfold kA PA;rw [List.map_flatten,y3,List.flatMap_map];rfl
    simp [this]
   ·intro q hq;obtain ⟨x,mo,rfl⟩:=yp.1 hq;have:=(hx x mo).1;exact ⟨this.1,this.2.1,this.2.2.1,this.2.2.2.1⟩
   ·intro q hq;obtain ⟨x,mo,rfl⟩:=yp.1 hq;exact .inl ⟨x.pn,x.parts,.no,rfl,.inl rfl,(hx x mo).1.2.2.2.2.2,(hx x mo).2⟩
   ·intro j k a b N _ ha _ pz _;rw [yc] at ha;obtain ⟨x,_,rfl⟩:=yn.1 ha;simp [mW] at pz
   ·simp
  ·obtain ⟨rfl,xs,e1,e4,e5,e6,m4,m5,nds,nx⟩:=h;simp [-J,-y4,-y3,y0,e4,e5,m4,m5];refine hk _ _ ⟨rfl,by simp [e4],.inr ⟨xs,by simp,?_⟩⟩;exact ⟨nds.len,by simp [nds.row],nds.num,fun q hq=>(nds.pc q hq).pres (ex:=none) (BC.set (BC.refl _ _ _) (.inr (by decide))) (by dsimp only; omega) (by simp),nds.dist⟩
theorem T6:∃ r:RV,(∃ l':List fC,(∀ x∈l',x.ok/\x.sized)/\l'.length=l.length/\r=(.agg (uG false l'),none))/\dF jA tA 52 [.agg (uG dn l),.sl cn (cs.map HW)] none=some r:=by
 refine JT SW gE rfl rfl (F:=ChE2 l.length) (B3 hx hl hc fc) fun e s' h=>?_
 have se:gE.res=[.cell 4 true 1]:=rfl;obtain ⟨rfl,e4,⟨fh,m4⟩ | ⟨xs,m4,nds⟩⟩:=h
 ·exact ⟨_,by simp [fin,se,zT,e4,m4,RB,AV.frz,AV.frz0,tX,AV.free,AV.free0,jW]; rfl,[],by simp,by simp [fh],rfl⟩
 ·obtain ⟨l',h1,h2⟩:=nd_frz2 nds xs fun q hq=>hq
  have pf:iB 5 (xs.map ndC)=true:=KB _ _ _ fun _=>rfl
  have g2:=frz_rowV (c:=l.length) pf nds.row (O7 xs) (by rw [h2]; simp [sD,AV.free0]);rw [yu,nds.len,h2] at g2;have f1:AV.frz s' (.agg [.ref 13 2 5 0 l.length l.length])=.agg [.sl false (l'.map sD)]:=by simp only [AV.frz,yf,ym,g2]
  exact ⟨_,by simp [fin,se,zT,e4,m4,RB,f1,tX,AV.free,AV.free0,jW,-AV.frz,-AV.frz0]; rfl,l',h1,by have:=congrArg List.length h2; simp only [yu] at this; rw [<- this,nds.len],rfl⟩
theorem Q9:∃ r:RV,(∃ l':List fC,(∀ x∈l',x.ok)/\r=(.agg (uG false l'),none))/\dF jA tA 52 [.agg (uG dn l),.sl cn (cs.map HW)] none=some r:=by
 obtain ⟨r,⟨l',h1,_,h2⟩,h3⟩:=T6 (dn:=dn) (cn:=cn) hx hl hc fc;exact ⟨r,⟨l',fun x hx=>(h1 x hx).1,h2⟩,h3⟩
end
end Go.Proofs.YtbhbeakhognieaaGreat
