/- A part of the proof. -/
import Derived.Test.YtbnlmgncbgaepaaGreatWk
import Derived.Test.YtbnlmgncbgaepaaGreatWl
set_option linter.all false
set_option maxRecDepth 100000
set_option maxHeartbeats 8000000
open Option renaming bind_some → V, map_eq_some_iff → yg, map_some → yz
open List renaming range_succ → J, map_map → y0, all_eq_true → y4, getElem?_eq_getElem → y5, getElem_mem → y6, drop_eq_getElem_cons → y9, getElem?_eq_some_iff → yb, getElem?_map → yc, mem_cons → yf, map_cons → yh, mem_of_getElem? → yj, map_congr_left → yl, length_map → yo, length_append → yp, map_nil → yr, mem_append → yu, mem_map → yw, getElem_of_mem → yx, flatten_cons → yB, length_take → yC, take_of_length_le → yD, getElem?_append_left → yE, length_cons → yH, getElem?_eq_none → yL, eq_nil_of_length_eq_zero → yN, append_nil → yO, getElem?_append_right → yP, getElem?_drop → yQ, getElem?_take → yR
open Int renaming toNat_lt → y3, tmod_eq_emod_of_nonneg → yy, emod_nonneg → yJ, emod_lt_of_pos → yM
open Nat renaming le_refl → ym, zero_add → yF, mul_le_mul_right → yW
namespace Go.Proofs.YtbnlmgncbgaepaaGreat
open Go
def q1b:C:=.block 2 (oR [oS 93 (.bin .eql false (.t 67) (.c (.int .u8 0))),oM 92 93] (oD 92 (.reg [oM 94 8,oM 95 8,oK 96 95,oF 97 1 96,oL 98 97,oF 99 2 7,oLr 100 7 1 99,oS 101 (.bin .rem false (.t 100) (.c (.int .u8 5))),oB 102 .add 98 101,oS 103 (.bin .sub false (.t 102) (.c (.int .u8 2))),oK 104 94,oF 105 1 104,oW 105 103]) (oR [oS 107 (.bin .eql false (.t 67) (.c (.int .u8 1))),oM 106 107] (oD 106 (.reg [oM 108 8,oM 109 8,oK 110 109,oF 111 2 110,oL 112 111,oF 113 3 7,oLr 114 7 1 113,oS 115 (.bin .rem false (.t 114) (.c (.int .u8 5))),oB 116 .add 112 115,oS 117 (.bin .sub false (.t 116) (.c (.int .u8 2))),oK 118 108,oF 119 2 118,oW 119 117]) (oR [oS 121 (.bin .eql false (.t 67) (.c (.int .u8 2))),oM 120 121] (oD 120 (.reg [oM 122 8,oM 123 8,oK 124 123,oF 125 1 124,oL 126 125,oF 127 2 7,oLr 128 7 1 127,oS 129 (.bin .rem false (.t 128) (.c (.int .u8 6))),oS 130 (.bin .shl false (.c (.int .u8 1)) (.t 129)),oB 131 .xor 126 130,oK 132 122,oF 133 1 132,oW 133 131]) (oR [oS 135 (.bin .eql false (.t 67) (.c (.int .u8 3))),oM 134 135] (oD 134 (.reg [oM 136 8,oM 137 8,oK 138 137,oF 139 3 138,oL 140 139,oF 141 2 7,oLr 142 7 1 141,oB 143 .add 140 142,oK 144 136,oF 145 3 144,oW 145 143]) (oR [oS 147 (.bin .eql false (.t 67) (.c (.int .u8 4))),oM 146 147] (oD 146 (oR [oM 148 8,oK 149 148,oF 150 4 149,oL 151 150,oH 152 151,oC 153 .lss 152 8] (oD 153 (.reg [oM 154 8,oM 155 8,oK 156 155,oF 157 4 156,oL 158 157,oF 159 2 7,oLr 160 7 1 159,oF 161 3 7,oLr 162 7 1 161,oF 163 2 7,oLr 164 7 1 163,oS 165 (.bin .quo false (.t 164) (.c (.int .u8 12))),oS 166 (.build zzg [(0,(1,(.t 160))),(1,(1,(.t 162))),(2,(1,(.t 165)))]),oS 167 (.bsl zzg 1 [(0,(.t 166))]),oS 168 (.appm .any 165 3 3 (.t 158) (.t 167)),oK 169 154,oF 170 4 169,oW 170 168]) .skip)) (oR [oS 172 (.bin .eql false (.t 67) (.c (.int .u8 5))),oM 171 172] (oD 171 (oR [oM 173 8,oK 174 173,oF 175 4 174,oL 176 175,oH 177 176,oC 178 .gtr 177 0] (oD 178 (.reg [oM 179 8,oM 180 8,oK 181 180,oF 182 4 181,oL 183 182,oM 184 9,oS 185 (.slc false 3 (.t 183) .none (.some (.t 184)) .none),oM 186 8,oK 187 186,oF 188 4 187,oL 189 188,oM 190 9,oC 191 .add 190 1,oS 192 (.slc false 3 (.t 189) (.some (.t 191)) .none .none),oS 193 (.appm .any 165 3 3 (.t 185) (.t 192)),oK 194 179,oF 195 4 194,oW 195 193]) .skip)) (oR [oS 197 (.bin .eql false (.t 67) (.c (.int .u8 6))),oM 196 197] (oD 196 (oR [oM 198 8,oK 199 198,oF 200 4 199,oL 201 200,oH 202 201,oC 203 .gtr 202 0] (oD 203 (.reg [oM 204 8,oK 205 204,oF 206 4 205,oL 207 206,oM 208 9,oF 209 3 7,oLr 210 7 1 209,oI 211 3 207 208,oF 212 2 211,oW 212 210]) .skip)) (oR [oM 68 8,oK 69 68,oF 70 4 69,oL 71 70,oH 72 71,oC 73 .gtr 72 0] (oD 73 (.reg [oM 74 8,oK 75 74,oF 76 4 75,oL 77 76,oM 78 9,oM 79 8,oK 80 79,oF 81 4 80,oL 82 81,oM 83 9,oI 84 3 82 83,oF 85 1 84,oL 86 85,oF 87 3 7,oLr 88 7 1 87,oB 89 .add 86 88,oI 90 3 77 78,oF 91 1 90,oW 91 89]) .skip))))))))))))))))
theorem chg_L1:q1c=.seq (.seq (.reg [⟨(.some 15),(.mv (.t 6)),.none⟩,⟨(.some 16),(.mv (.t 1)),.none⟩,⟨(.some 17),(.len .false (.t 16)),.none⟩,⟨(.some 18),(.bin .lss .false (.t 15) (.t 17)),.none⟩,⟨(.some 19),(.mv (.t 18)),.none⟩,⟨(.some 20),(.faddr 0 (.t 5)),(.some (19,.true))⟩,⟨(.some 21),(.load .any .false 1 (.t 20)),(.some (19,.true))⟩,⟨(.some 22),(.len .false (.t 21)),(.some (19,.true))⟩,⟨(.some 23),(.bin .gtr .false (.t 22) (.c (.int .i64 0))),(.some (19,.true))⟩,⟨(.some 24),(.pick (.t 19) (.t 23) (.c (.bool .false))),.none⟩]) (.cond (.t 24) .skip (.exit 0))) (.seq (.block 1 (.seq (.reg [⟨(.some 27),(.mv (.t 1)),.none⟩,⟨(.some 28),(.mv (.t 6)),.none⟩,⟨(.some 29),(.iaddr 4 (.t 27) (.t 28)),.none⟩,⟨(.some 30),(.load .any .true 4 (.t 29)),.none⟩,⟨(.some 7),(.alloc [(.int .u8 0),(.int .u8 0),(.int .u8 0),(.int .u8 0)]),.none⟩,⟨.none,(.store .any .true 4 (.t 7) (.t 30)),.none⟩]) (.seq (.reg [⟨(.some 31),(.faddr 0 (.t 5)),.none⟩,⟨(.some 32),(.load (.root 5) .false 1 (.t 31)),.none⟩,⟨(.some 33),(.faddr 1 (.t 7)),.none⟩,⟨(.some 34),(.load (.root 7) .false 1 (.t 33)),.none⟩,⟨(.some 35),(.conv (.some .i64) (.t 34)),.none⟩,⟨(.some 36),(.faddr 0 (.t 5)),.none⟩,⟨(.some 37),(.load (.root 5) .false 1 (.t 36)),.none⟩,⟨(.some 38),(.len .false (.t 37)),.none⟩,⟨(.some 39),(.bin .rem .false (.t 35) (.t 38)),.none⟩,⟨(.some 40),(.iaddr 5 (.t 32) (.t 39)),.none⟩,⟨(.some 8),(.mv (.t 40)),.none⟩]) (.seq (.reg [⟨(.some 41),(.mv (.t 8)),.none⟩,⟨(.some 42),(.bsl [(.int .u8 0),(.int .u8 0),(.int .u8 0)] 0 []),.none⟩,⟨(.some 43),(.mv (.t 8)),.none⟩,⟨(.some 44),(.nilchk (.t 43)),.none⟩,⟨(.some 45),(.faddr 4 (.t 44)),.none⟩,⟨(.some 46),(.load .any .false 1 (.t 45)),.none⟩,⟨(.some 47),(.appf .any 165 3 3 (.t 42) (.t 46)),.none⟩,⟨(.some 48),(.nilchk (.t 41)),.none⟩,⟨(.some 49),(.faddr 4 (.t 48)),.none⟩,⟨.none,(.store .any .false 1 (.t 49) (.t 47)),.none⟩]) (.seq (.reg [⟨(.some 9),(.mv (.c (.int .i64 0))),.none⟩]) (.seq (.seq (.reg [⟨(.some 50),(.mv (.t 8)),.none⟩,⟨(.some 51),(.nilchk (.t 50)),.none⟩,⟨(.some 52),(.faddr 4 (.t 51)),.none⟩,⟨(.some 53),(.load .any .false 1 (.t 52)),.none⟩,⟨(.some 54),(.len .false (.t 53)),.none⟩,⟨(.some 55),(.bin .gtr .false (.t 54) (.c (.int .i64 0))),.none⟩]) (.cond (.t 55) (.reg [⟨(.some 56),(.faddr 2 (.t 7)),.none⟩,⟨(.some 57),(.load (.root 7) .false 1 (.t 56)),.none⟩,⟨(.some 58),(.conv (.some .i64) (.t 57)),.none⟩,⟨(.some 59),(.mv (.t 8)),.none⟩,⟨(.some 60),(.nilchk (.t 59)),.none⟩,⟨(.some 61),(.faddr 4 (.t 60)),.none⟩,⟨(.some 62),(.load .any .false 1 (.t 61)),.none⟩,⟨(.some 63),(.len .false (.t 62)),.none⟩,⟨(.some 64),(.bin .rem .false (.t 58) (.t 63)),.none⟩,⟨(.some 9),(.mv (.t 64)),.none⟩]) .skip)) (.seq (.reg [⟨(.some 65),(.faddr 0 (.t 7)),.none⟩,⟨(.some 66),(.load .any .false 1 (.t 65)),.none⟩,⟨(.some 67),(.bin .rem .false (.t 66) (.c (.int .u8 8))),.none⟩]) q1b))))))) (.reg [⟨(.some 25),(.mv (.t 6)),.none⟩,⟨(.some 26),(.bin .add .false (.t 25) (.c (.int .i64 1))),.none⟩,⟨(.some 6),(.mv (.t 26)),.none⟩])):=rfl
structure Chg where
 kind:Int
 node:Int
 a:Int
 b:Int
def chgC (c:Chg):List AV:=[.int .u8 c.kind,.int .u8 c.node,.int .u8 c.a,.int .u8 c.b]
def Chg.ok (c:Chg):Prop:=u8 c.kind/\u8 c.node/\u8 c.a/\u8 c.b
def q7s (c:Chg):List Slot:=[⟨.int .u8 c.kind,.no⟩,⟨.int .u8 c.node,.no⟩,⟨.int .u8 c.a,.no⟩,⟨.int .u8 c.b,.no⟩]
abbrev Nd:=Nde × Slot
def q7h (q:Nd):List Slot:=[⟨.int .u8 q.1.k,.no⟩,⟨.int .u8 q.1.a,.no⟩,⟨.int .u8 q.1.b,.no⟩,⟨.int .u8 q.1.c,.no⟩,q.2]
def q0n (xs:List Nd):List Slot:=xs.flatMap q7h
theorem qav:∀ xs:List Nd,(q0n xs).length=xs.length * 5
 | []=>rfl
 | q :: r=>by
  have:=qav r;unfold q0n at this ⊢;rw [List.flatMap_cons,yp,this,yH];simp [q7h];omega
section
variable {xs:List Nd} {z:Nat}
include xs z
theorem q8y {q:Nd} (h:xs[z]?=some q):q0n xs=q0n (xs.take z)++(q7h q++q0n (xs.drop (z + 1)))/\(q0n (xs.take z)).length=z * 5:=by
 obtain ⟨hz,rfl⟩:=yb.1 h;refine ⟨?_,by rw [qav,yC]; omega⟩;have e:xs=xs.take z++(xs[z] :: xs.drop (z + 1)):=by rw [<- y9 hz,List.take_append_drop]
 refine (congrArg q0n e).trans ?_;unfold q0n;rw [List.flatMap_append,List.flatMap_cons]
theorem q2P {q:Nd} (h:xs[z]?=some q) (o:Nat) (ho:o<5):(q0n xs)[z * 5 + o]?=(q7h q)[o]?:=by
 obtain ⟨h1,h2⟩:=q8y h;rw [h1,yP (by omega),h2,Nat.add_sub_cancel_left,yE (by simp [q7h]; omega)]
theorem ndsRow_set {q q':Nd} (h:xs[z]?=some q) (o:Nat) (ho:o<5) (y:Slot) (hq:(q7h q).set o y=q7h q'):(q0n xs).set (z * 5 + o) y=q0n (xs.set z q'):=by
 obtain ⟨h1,h2⟩:=q8y h;have hz:=(yb.1 h).1;have h':(xs.set z q')[z]?=some q':=List.getElem?_set_self hz;obtain ⟨g1,g2⟩:=q8y h';rw [h1,g1,List.set_append_right _ _ (by omega),h2,Nat.add_sub_cancel_left,List.set_append_left _ _ (by simp [q7h]; omega),hq];rw [List.take_set_of_le (ym z),List.drop_set_of_lt (Nat.lt_succ_self z)]
theorem q2B {q q':Nd} (h:xs[z]?=some q) (o:Nat) (ho:o<5) (v:AV) (a:An) (hv:v.leaf=true) (hq:(q7h q).set o ⟨v,a⟩=q7h q'):q0f false 1 (z * 5 + o) (q0n xs) v a=some (q0n (xs.set z q')):=by
 have hz:=(yb.1 h).1;have hl:=qav xs;simp only [q0f,hv];rw [<- ndsRow_set h o ho _ hq];simp;omega
end
def nmM (x:Slot):Option Nat:=match x.v with
 | .ref _ M _ _ _ _=>some M
 | _=>none
def PcI (M:Nat->Nat->Option (List Slot)) (n:Nat) (x:Slot):Prop :=
 (∃ (nl:Bool) (ps:List Prt) (a:An),x=⟨.sl nl (ps.map prtC),a⟩/\(a=.no\/a=.ex)/\(∀ p∈ps,p.ok)/\ps.length * 3<=140737488355328) ∨
 ∃ (t N c:Nat) (ps:List Prt),x=⟨.ref t N 3 0 ps.length c,.no⟩/\(t=47\/t=168\/t=193)/\N<n/\M t N=some (q0c (ps.map prtC))/\(∀ p∈ps,p.ok)/\ps.length * 3<=140737488355328
def Pres (n:Nat) (ex:Option Nat) (M M':Nat->Nat->Option (List Slot)):Prop:=∀ (t N:Nat) (ps:List Prt),(t=47\/t=168\/t=193)->N<n->some N≠ex->M t N=some (q0c (ps.map prtC))->M' t N=some (q0c (ps.map prtC))
theorem Pres.refl (n:Nat) (ex:Option Nat) (M:Nat->Nat->Option (List Slot)):Pres n ex M M:=fun _ _ _ _ _ _ h=>h
theorem Pres.set {n:Nat} {ex:Option Nat} {M M':Nat->Nat->Option (List Slot)} (h:Pres n ex M M') {t' n':Nat} {r:List Slot} (hn:n<=n'\/¬ (t'=47\/t'=168\/t'=193)):Pres n ex M (setM M' t' n' r):=fun t N ps ht hN hx hm=>by
 rw [q0B,if_neg]
 ·exact h t N ps ht hN hx hm
 ·rintro ⟨rfl,rfl⟩;rcases hn with hn | hn
  ·omega
  ·exact hn ht
theorem q8S (ps:List Prt):q2l (ps.map prtC)=true:=q6E prtC ps fun p=>by simp [prtC,AV.free0]
theorem q5S (ps:List Prt):q13 3 (ps.map prtC)=true:=q1a _ _ _ fun _=>rfl
theorem Pres.kill {n:Nat} {ex:Option Nat} {M M':Nat->Nat->Option (List Slot)} (h:Pres n ex M M') {t' n':Nat} (hn:ex=some n'):Pres n ex M (killM t' n' M'):=fun t N ps ht hN hx hm=>by
 rw [q0D,if_neg,h t N ps ht hN hx hm]
 ·simp only [yz,rowOf_kill (q8S ps)]
 ·rintro ⟨rfl,rfl⟩;exact hx hn.symm
theorem PcI.pres {M M':Nat->Nat->Option (List Slot)} {n n':Nat} {x:Slot} (h:PcI M n x) {ex:Option Nat} (hp:Pres n ex M M') (hn:n<=n') (hx:∀ N,nmM x=some N->some N≠ex):PcI M' n' x:=by
 rcases h with h | ⟨t,N,c,ps,rfl,h1,h2,h3,h4,h5⟩
 ·exact .inl h
 ·exact .inr ⟨t,N,c,ps,rfl,h1,by omega,hp t N ps h1 h2 (hx N rfl) h3,h4,h5⟩
structure NdsI (L:Nat) (M:Nat->Nat->Option (List Slot)) (n:Nat) (xs:List Nd):Prop where
 len:xs.length=L
 row:M 13 2=some (q0n xs)
 num:∀ q∈xs,u8 q.1.k/\u8 q.1.a/\u8 q.1.b/\u8 q.1.c
 pc:∀ q∈xs,PcI M n q.2
 dist:∀ (j k:Nat) (a b:Nd) (N:Nat),j≠k->xs[j]?=some a->xs[k]?=some b->nmM a.2=some N->nmM b.2=some N->False
theorem NdsI.upd {L:Nat} {M M':Nat->Nat->Option (List Slot)} {n n':Nat} {xs:List Nd} (h:NdsI L M n xs) {z:Nat} {q q':Nd} (hz:xs[z]?=some q) (ka:M' 13 2=some (q0n (xs.set z q'))) (mc:u8 q'.1.k/\u8 q'.1.a/\u8 q'.1.b/\u8 q'.1.c) (jf:PcI M' n' q'.2) (hp:Pres n (nmM q.2) M M') (hn:n<=n') (tb:nmM q'.2=nmM q.2\/∀ N,nmM q'.2=some N->n<=N):NdsI L M' n' (xs.set z q'):=by
 have jk:=(yb.1 hz).1;have dA:∀ (k:Nat) (b:Nd),k≠z->xs[k]?=some b->PcI M' n' b.2:=fun k b hk hb=>(h.pc b (yj hb)).pres hp hn fun N hN e=>h.dist k z b q N hk hb hz hN e.symm
 have ii:∀ (k:Nat) (b:Nd),(xs.set z q')[k]?=some b->(k=z/\b=q')\/(k≠z/\xs[k]?=some b):=fun k b hb=>by
  rw [List.getElem?_set] at hb;by_cases e:z=k
  ·rw [if_pos e,if_pos jk] at hb;injection hb with hb;exact .inl ⟨e.symm,hb.symm⟩
  ·rw [if_neg e] at hb;exact .inr ⟨fun h=>e h.symm,hb⟩
 have se:∀ (b:Nd) (N:Nat),b∈xs->nmM b.2=some N->N<n:=fun b N hb hN=>by
  rcases h.pc b hb with ⟨nl,ps,a,e,_⟩ | ⟨t,N',c,ps,e,_,h2,_⟩
  ·rw [e] at hN; simp [nmM] at hN
  ·rw [e] at hN; simp [nmM] at hN; omega
 refine ⟨by simp [h.len],ka,fun b hb=>?_,fun b hb=>?_,fun j k a b N gw ha hb jy eC=>?_⟩
 ·obtain ⟨k,hk,rfl⟩:=yx hb;rcases ii k _ (y5 hk) with ⟨_,e⟩ | ⟨_,e⟩
  ·rw [e]; exact mc
  ·exact h.num _ (yj e)
 ·obtain ⟨k,hk,rfl⟩:=yx hb;rcases ii k _ (y5 hk) with ⟨_,e⟩ | ⟨zc,e⟩
  ·rw [e]; exact jf
  ·exact dA k _ zc e
 ·rcases ii j a ha with ⟨hj,rfl⟩ | ⟨hj,ru⟩
  ·rcases ii k b hb with ⟨hk,rfl⟩ | ⟨hk,ua⟩
   ·omega
   ·rcases tb with e | e
    ·exact h.dist z k q b N (by omega) hz ua (by rw [<- e]; exact jy) eC
    ·have:=e N jy;have:=se b N (yj ua) eC;omega
  ·rcases ii k b hb with ⟨hk,rfl⟩ | ⟨hk,ua⟩
   ·rcases tb with e | e
    ·exact h.dist j z a q N (by omega) ru hz jy (by rw [<- e]; exact eC)
    ·have:=e N eC;have:=se a N (yj ru) jy;omega
   ·exact h.dist j k a b N gw ru ua jy eC
theorem ndsRow_kill {L:Nat} {M:Nat->Nat->Option (List Slot)} {n:Nat} {xs:List Nd} (h:NdsI L M n xs) {z:Nat} {q:Nd} (hz:xs[z]?=some q) {t N:Nat} (hN:nmM q.2=some N):(q0n xs).map (Slot.kill t N)=q0n (xs.set z (q.1,q.2.kill t N)):=by
 have jk:=(yb.1 hz).1;have e1:xs.map (fun b:Nd=>((b.1,b.2.kill t N):Nd))=xs.set z (q.1,q.2.kill t N):=by
  refine List.ext_getElem? fun k=>?_
  rw [yc,List.getElem?_set];by_cases e:z=k
  ·subst e;rw [if_pos rfl,if_pos jk,hz];rfl
  ·rw [if_neg e];cases hk:xs[k]? with
   | none=>rfl
   | some b =>
    have hb:b.2.kill t N=b.2:=by
     rcases h.pc b (yj hk) with ⟨nl,ps,a,e',_⟩ | ⟨t',N',c,ps,e',_⟩
     ·rw [e'];show (⟨AV.kill t N (.sl nl (ps.map prtC)),a⟩:Slot)=_;rfl
     ·have oa:N'≠N:=fun e2=>h.dist k z b q N (fun e3=>e e3.symm) hk hz (by rw [e',e2]; rfl) hN
      rw [e'];simp [Slot.kill_mk,AV.kill,AV.kill0,oa]
    simp only [yz,hb]
 rw [<- e1];unfold q0n;rw [List.map_flatMap,List.flatMap_map];congr 1
structure ChI (cn:Bool) (cs:List Chg) (L i:Nat) (xs:List Nd) (s:MSt):Prop where
 e1:(s.env 1).v=.sl cn (cs.map chgC)
 e4:(s.env 4).v=.ptr 4 1 0
 e5:(s.env 5).v=.ptr 5 2 0
 e6:(s.env 6).v=.int .i64 i
 m4:s.mem 4 1=some [⟨.sl true [],.ex⟩]
 m5:s.mem 5 2=some [⟨.ref 13 2 5 0 L L,.no⟩]
 nds:NdsI L s.mem s.next xs
 nx:2<s.next
def OwnP (s:MSt) (ps:List Prt) (pc:Slot):Prop:=(ps=[]/\pc=⟨.sl false [],.ex⟩)\/(ps≠[]/\∃ N,pc=⟨.ref 47 N 3 0 ps.length ps.length,.no⟩/\N<s.next/\s.mem 47 N=some (q0c (ps.map prtC)))
structure ChT (cn:Bool) (cs:List Chg) (L i:Nat) (xs:List Nd) (c:Chg) (z:Nat) (x:Nde) (pc:Slot) (ps:List Prt) (s:MSt):Prop where
 ch:ChI cn cs L i xs s
 e7:∃ n7,(s.env 7).v=.ptr 7 n7 0/\s.mem 7 n7=some (q7s c)
 e8:(s.env 8).v=.ptr 13 2 (z * 5)
 e9:∃ kk:Nat,(s.env 9).v=.int .i64 kk/\(ps≠[]->kk<ps.length)
 e67:(s.env 67).v=.int .u8 (c.kind % 8)
 hz:xs[z]?=some (x,pc)
 pcs:OwnP s ps pc
 ok:∀ p∈ps,p.ok
 sz:ps.length * 3<=140737488355328
theorem chg_head {r:RV} {cn:Bool} {cs:List Chg} {L i:Nat} (hi:i<cs.length) (jd:cs.length<=9223372036854775807) (la:∀ c∈cs,c.ok) (rE:0<L) (gC:L<=140737488355328) {xs:List Nd} {s:MSt} (h:ChI cn cs L i xs s) (k:Ex->MSt->Option RV)
  (hk:∀ s' cj c z x pc ps (kk:Ex->MSt->Option RV),c∈cs->ChT cn cs L i cj c z x pc ps s'->(∀ s2 fh,ChI cn cs L i fh s2->kk .nrm s2=some r)->q1b.run (evC allT q01) (evK allT q01) s' kk=some r)
  (ih:∀ s' cj,ChI cn cs L (i + 1) cj s'->evL allT q01 q1c s' k=some r):evL allT q01 q1c s k=some r:=by
 obtain ⟨e1,e4,e5,e6,m4,m5,nds,nx⟩:=h;refine q02 ?_;have ga:(i:Int)<cs.length:=by omega
 have g1:(cs.map chgC)[i]?=some (chgC cs[i]):=by simp [hi]
 have og:=q0s (i:=i);have ir:=y6 hi;have dO:=la _ ir;generalize cs[i]=c at *
 obtain ⟨⟨k1,k2⟩,⟨n1,n2⟩,⟨a1,a2⟩,b1,b2⟩:=dO;simp only [chgC] at g1;have lq:IntKind.i64.wrap c.node=c.node:=IntWalk.i64_in _ (by omega);have dE:IntKind.i64.wrap c.a=c.a:=IntWalk.i64_in _ (by omega);have hm:c.node.tmod L=c.node % L:=yy (by omega);have gc:=yJ c.node (b:=(L:Int)) (by omega);have mo:=yM c.node (b:=(L:Int)) (by omega);have h8:c.kind.tmod 8=c.kind % 8:=yy (by omega);have sE:(0:Int)<L:=by omega
 have uE:¬ L=0:=by omega
 generalize c.node % (L:Int)=zz at *
 have jk:zz.toNat<xs.length:=by rw [nds.len]; omega
 obtain ⟨q,hq⟩:∃ q,xs[zz.toNat]?=some q:=⟨_,y5 jk⟩;obtain ⟨x,pc⟩:=q;have mc:=nds.num _ (yj hq);have sA:(q0n xs)[zz.toNat * 5 + 4]?=some pc:=q2P hq 4 (by omega);have cont:∀ (s2:MSt) (fh:List Nd) (E:Nat->Slot),ChI cn cs L i fh s2->s2.env=E->ChI cn cs L (i + 1) fh ⟨putE (putE (putE E 25 ⟨.int .i64 i,(E 6).a⟩) 26 ⟨.int .i64 ((i + 1:Nat):Int),.no⟩) 6 ⟨.int .i64 ((i + 1:Nat):Int),.no⟩,s2.mem,s2.next + 1,s2.obj,s2.gh⟩:=fun s2 fh E h he=>by
  subst he;obtain ⟨e1,e4,e5,e6,m4,m5,nds,nx⟩:=h;exact ⟨by simp [e1],by simp [e4],by simp [e5],by simp,m4,m5,⟨nds.len,nds.row,nds.num,fun q hq=>(nds.pc q hq).pres (ex:=none) (Pres.refl _ _ _) (by dsimp only; omega) (by simp),nds.dist⟩,by dsimp only; omega⟩
 have fin:∀ (s':MSt) (cj:List Nd) (wJ:Slot) (ps:List Prt),ChT cn cs L i cj c zz.toNat x wJ ps s'->q1b.run (evC allT q01) (evK allT q01) s' (blkK 1 (seqK (evC allT q01) (evK allT q01) (.reg [⟨some 25,.mv (.t 6),none⟩,⟨some 26,.bin .add false (.t 25) (.c (.int .i64 1)),none⟩,⟨some 6,.mv (.t 26),none⟩]) (q83 (evL allT q01) q1c k)))=some r:=fun s' cj wJ ps hT=>by
  refine hk s' cj c _ x wJ ps _ ir hT (fun s2 fh h2=>?_);have e6:=h2.e6;simp [-V,-y3,-y0,J,e6,og];exact ih _ _ (cont s2 fh _ h2 rfl)
 rw [chg_L1];have jf:=nds.pc _ (yj hq);have fq:∃ ps:List Prt,(∀ p∈ps,p.ok)/\ps.length * 3<=140737488355328/\((∃ nl a,pc=⟨.sl nl (ps.map prtC),a⟩)\/∃ t N c0,pc=⟨.ref t N 3 0 ps.length c0,.no⟩/\(t=47\/t=168\/t=193)/\N<s.next/\s.mem t N=some (q0c (ps.map prtC))):=by
  rcases jf with ⟨nl,ps,a,h1,_,h3,h4⟩ | ⟨t,N,c0,ps,h1,h2,h3,h4,h5,h6⟩
  ·exact ⟨ps,h3,h4,.inl ⟨nl,a,h1⟩⟩
  ·exact ⟨ps,h5,h6,.inr ⟨t,N,c0,h1,h2,h3,h4⟩⟩
 obtain ⟨ps,jm,px,dx⟩:=fq;have eg:=nds.row;have kw:=q2B (q':=(x,⟨.sl false [],.ex⟩)) hq 4 (by omega) (.sl false []) .ex rfl rfl;have ng:∀ n,q0f false 1 (zz.toNat * 5 + 4) (q0n xs) (.ref 47 n 3 0 ps.length ps.length) .no=some (q0n (xs.set zz.toNat (x,⟨.ref 47 n 3 0 ps.length ps.length,.no⟩))):=fun n=>q2B hq 4 (by omega) _ .no rfl rfl
 have gB:∀ y,(xs.set zz.toNat (x,y))[zz.toNat]?=some (x,y):=fun y=>List.getElem?_set_self jk
 have nK:=q2P (gB ⟨.sl false [],.ex⟩) 4 (by omega);have pH:∀ n,(q0n (xs.set zz.toNat (x,⟨.ref 47 n 3 0 ps.length ps.length,.no⟩)))[zz.toNat * 5 + 4]?=some ⟨.ref 47 n 3 0 ps.length ps.length,.no⟩:=fun n=>q2P (gB _) 4 (by omega)
 have tC:(q0n (xs.set zz.toNat (x,⟨.sl false [],.ex⟩)))[zz.toNat * 5 + 4]?=some ⟨.sl false [],.ex⟩:=nK;clear nK;have ba:q0G 3 ps.length=true:=by rw [q0d]; omega
 have lg:q0G 3 0=true:=by decide
 have eh:q2R (q0c (ps.map prtC)) 3 0 ps.length=some (ps.map prtC):=by
  have:=q50 (q5S ps) (q8S ps);simpa using this
 have q3:=q5S ps;have fr:∀ (n':Nat) (M':Nat->Nat->Option (List Slot)) (y:Slot),PcI M' n' y->Pres s.next (nmM pc) s.mem M'->s.next<=n'->M' 13 2=some (q0n (xs.set zz.toNat (x,y)))->(nmM y=nmM pc\/∀ N,nmM y=some N->s.next<=N)->NdsI L M' n' (xs.set zz.toNat (x,y)):=fun n' M' y h1 h2 h3 h4 h5=>nds.upd hq h4 mc h1 h2 h3 h5
 by_cases oa:ps=[]
 ·have lD:∀ M' n',PcI M' n' ⟨.sl false [],.ex⟩:=fun M' n'=>.inl ⟨false,[],.ex,rfl,.inr rfl,by simp,by simp⟩
  rcases dx with ⟨nl,a,rfl⟩ | ⟨t,N,c0,rfl,ht,hN,im⟩
  ·subst oa;simp at sA;generalize zj:q0n xs=R0 at *
   generalize sg:q0n (xs.set zz.toNat (x,⟨.sl false [],.ex⟩))=R1 at *
   simp [-V,-y3,-y0,J,-q0Y,-q0f,q0K,q0S,q0o,q0p,e1,e4,e5,e6,m4,m5,eg,ga,g1,sE,uE,rE,lq,hm,gc,mo,h8,sA,og,kw,tC,lg];refine fin _ (xs.set zz.toNat (x,⟨.sl false [],.ex⟩)) ⟨.sl false [],.ex⟩ [] ⟨⟨?_,?_,?_,?_,?_,?_,fr _ _ _ ?_ ?_ ?_ ?_ ?_,?_⟩,⟨s.next + 1,?_,?_⟩,?_,⟨0,?_,?_⟩,?_,gB _,.inl ⟨rfl,rfl⟩,jm,px⟩
   ·simp [e1]
   ·simp [e4]
   ·simp [e5]
   ·simp [e6]
   ·simp [m4]
   ·simp [m5]
   ·exact lD _ _
   ·dsimp only
    repeat (first | exact Pres.refl _ _ _ | refine Pres.set ?_ (.inr (by decide)) | refine Pres.set ?_ (.inl (by omega)))
   ·dsimp only; omega
   ·simp [sg]
   ·right;intro N hN;simp [nmM] at hN
    try omega
   ·dsimp only; omega
   ·simp
   ·simp [q7s]
   ·simp
   ·simp
   ·first | (intro _; omega) | simp
   ·simp
  ·subst oa;simp at sA im eh;generalize zj:q0n xs=R0 at *
   generalize sg:q0n (xs.set zz.toNat (x,⟨.sl false [],.ex⟩))=R1 at *
   have h7:¬ t=7:=by omega
   simp [-V,-y3,-y0,J,-q0Y,-q0f,q0K,q0S,q0o,q0p,e1,e4,e5,e6,m4,m5,eg,ga,g1,sE,uE,rE,lq,hm,gc,mo,h8,sA,og,kw,tC,lg,im,eh,Cl.okMem,h7];refine fin _ (xs.set zz.toNat (x,⟨.sl false [],.ex⟩)) ⟨.sl false [],.ex⟩ [] ⟨⟨?_,?_,?_,?_,?_,?_,fr _ _ _ ?_ ?_ ?_ ?_ ?_,?_⟩,⟨s.next + 1,?_,?_⟩,?_,⟨0,?_,?_⟩,?_,gB _,.inl ⟨rfl,rfl⟩,jm,px⟩
   ·simp [e1]
   ·simp [e4]
   ·simp [e5]
   ·simp [e6]
   ·simp [m4]
   ·simp [m5]
   ·exact lD _ _
   ·dsimp only
    repeat (first | exact Pres.refl _ _ _ | refine Pres.set ?_ (.inr (by decide)) | refine Pres.set ?_ (.inl (by omega)))
   ·dsimp only; omega
   ·simp [sg]
   ·right;intro N hN;simp [nmM] at hN
    try omega
   ·dsimp only; omega
   ·simp
   ·simp [q7s]
   ·simp
   ·simp
   ·first | (intro _; omega) | simp
   ·simp
 ·have jg:ps.isEmpty=false:=by simpa using oa
  have mh:0<ps.length:=List.length_pos_iff.2 oa;have ki:(0:Int)<ps.length:=by omega
  have tz:¬ ps.length=0:=by omega
  have sj:c.a.tmod ps.length=c.a % ps.length:=yy (by omega);have th:=yJ c.a (b:=(ps.length:Int)) (by omega);have dd:=yM c.a (b:=(ps.length:Int)) (by omega);obtain ⟨kk,sb⟩:∃ kk:Nat,c.a % (ps.length:Int)=kk:=⟨(c.a % (ps.length:Int)).toNat,by omega⟩;rw [sb] at sj dd;obtain ⟨R1,ky⟩:∃ R1:Nat->List Slot,∀ n,q0n (xs.set zz.toNat (x,⟨.ref 47 n 3 0 ps.length ps.length,.no⟩))=R1 n:=⟨_,fun n=>rfl⟩;simp only [ky] at ng pH;rcases dx with ⟨nl,a,rfl⟩ | ⟨t,N,c0,rfl,ht,hN,im⟩
  ·generalize zj:q0n xs=R0 at *
   simp [-V,-y3,-y0,J,-q0Y,-q0f,q0K,q0S,q0o,q0p,e1,e4,e5,e6,m4,m5,eg,ga,g1,sE,uE,rE,lq,hm,gc,mo,h8,sA,og,ng,pH,ba,q3,jg,oa,mh,ki,tz,dE,sj];refine fin _ (xs.set zz.toNat (x,⟨.ref 47 (s.next + 3) 3 0 ps.length ps.length,.no⟩)) ⟨.ref 47 (s.next + 3) 3 0 ps.length ps.length,.no⟩ ps ⟨⟨?_,?_,?_,?_,?_,?_,fr _ _ _ ?_ ?_ ?_ ?_ ?_,?_⟩,⟨s.next + 1,?_,?_⟩,?_,⟨kk,?_,?_⟩,?_,gB _,.inr ⟨oa,s.next + 3,rfl,by dsimp only; omega,by simp⟩,jm,px⟩
   ·simp [e1]
   ·simp [e4]
   ·simp [e5]
   ·simp [e6]
   ·simp [m4]
   ·simp [m5]
   ·exact .inr ⟨47,s.next + 3,ps.length,ps,rfl,.inl rfl,by dsimp only; omega,by simp,jm,px⟩
   ·dsimp only
    repeat (first | exact Pres.refl _ _ _ | refine Pres.set ?_ (.inr (by decide)) | refine Pres.set ?_ (.inl (by omega)))
   ·dsimp only; omega
   ·simp [<- ky]
   ·right;intro N hN;simp [nmM] at hN
    try omega
   ·dsimp only; omega
   ·simp
   ·simp [q7s]
   ·simp
   ·simp
   ·first | (intro _; omega) | simp
   ·simp
  ·generalize zj:q0n xs=R0 at *
   have h7:¬ t=7:=by omega
   simp [-V,-y3,-y0,J,-q0Y,-q0f,q0K,q0S,q0o,q0p,e1,e4,e5,e6,m4,m5,eg,ga,g1,sE,uE,rE,lq,hm,gc,mo,h8,sA,og,ng,pH,ba,q3,jg,oa,mh,ki,tz,dE,sj,im,eh,Cl.okMem,h7];refine fin _ (xs.set zz.toNat (x,⟨.ref 47 (s.next + 3) 3 0 ps.length ps.length,.no⟩)) ⟨.ref 47 (s.next + 3) 3 0 ps.length ps.length,.no⟩ ps ⟨⟨?_,?_,?_,?_,?_,?_,fr _ _ _ ?_ ?_ ?_ ?_ ?_,?_⟩,⟨s.next + 1,?_,?_⟩,?_,⟨kk,?_,?_⟩,?_,gB _,.inr ⟨oa,s.next + 3,rfl,by dsimp only; omega,by simp⟩,jm,px⟩
   ·simp [e1]
   ·simp [e4]
   ·simp [e5]
   ·simp [e6]
   ·simp [m4]
   ·simp [m5]
   ·exact .inr ⟨47,s.next + 3,ps.length,ps,rfl,.inl rfl,by dsimp only; omega,by simp,jm,px⟩
   ·dsimp only
    repeat (first | exact Pres.refl _ _ _ | refine Pres.set ?_ (.inr (by decide)) | refine Pres.set ?_ (.inl (by omega)))
   ·dsimp only; omega
   ·simp [<- ky]
   ·right;intro N hN;simp [nmM] at hN
    try omega
   ·dsimp only; omega
   ·simp
   ·simp [q7s]
   ·simp
   ·simp
   ·first | (intro _; omega) | simp
   ·simp
section
theorem u8w (z:Int):u8 (IntKind.u8.wrap z):=by
 simp only [IntKind.wrap,IntKind.bits,IntKind.signed,u8];simp;omega
theorem set_self {α:Type} {xs:List α} {z:Nat} {q:α} (h:xs[z]?=some q):xs.set z q=xs:=by
 obtain ⟨hz,rfl⟩:=yb.1 h;exact List.set_getElem_self hz
theorem OwnP.pci {s:MSt} {ps:List Prt} {pc:Slot} (h:OwnP s ps pc) (ho:∀ p∈ps,p.ok) (hs:ps.length * 3<=140737488355328):PcI s.mem s.next pc:=by
 rcases h with ⟨rfl,rfl⟩ | ⟨_,N,rfl,h2,h3⟩
 ·exact .inl ⟨false,[],.ex,rfl,.inr rfl,by simp,by simp⟩
 ·exact .inr ⟨47,N,_,ps,rfl,.inl rfl,h2,h3,ho,hs⟩
section
variable {r:RV} {cn:Bool} {cs:List Chg} {L i:Nat} {xs:List Nd} {c:Chg} {z:Nat} {x:Nde} {pc:Slot} {ps:List Prt} {s:MSt}
theorem sw0 (hc:c.ok) (hm:c.kind % 8=0) (h:ChT cn cs L i xs c z x pc ps s) (k:Ex->MSt->Option RV) (hk:∀ s2 fh,ChI cn cs L i fh s2->k .nrm s2=some r):q1b.run (evC allT q01) (evK allT q01) s k=some r:=by
 obtain ⟨⟨e1,e4,e5,e6,m4,m5,nds,nx⟩,⟨n7,e7,m7⟩,e8,⟨kk,e9,sb⟩,e67,hz,pcs,ok,sz⟩:=h;rw [hm] at e67;have mc:=nds.num _ (yj hz);have eg:=nds.row;have g:=q2P hz 1 (by omega);have za:∀ v,q0f false 1 (z * 5 + 1) (q0n xs) (.int .u8 v) .no=some (q0n (xs.set z ({ x with a:=v },pc))):=fun v=>q2B hz 1 (by omega) _ .no rfl rfl
 obtain ⟨R1,sg⟩:∃ R1:Int->List Slot,∀ v,q0n (xs.set z ({ x with a:=v },pc))=R1 v:=⟨_,fun v=>rfl⟩;simp only [sg] at za;simp only [q7h] at g;simp at g;generalize zj:q0n xs=R0 at *
 simp only [q7s] at m7;have h7:∀ n,¬ (7=13/\n=2):=by simp
 simp [q1b,-V,-y3,-y0,J,-q0Y,-q0f,q0K,q0S,q0o,q0p,e7,m7,e8,e67,eg,g,za];refine hk _ (xs.set z ({ x with a:=IntKind.u8.wrap (IntKind.u8.wrap (x.a + c.a.tmod 5) - 2) },pc)) ⟨?_,?_,?_,?_,?_,?_,nds.upd hz ?_ ⟨mc.1,u8w _,mc.2.2⟩ ?_ ?_ ?_ (.inl rfl),?_⟩
 ·simp [e1]
 ·simp [e4]
 ·simp [e5]
 ·simp [e6]
 ·simp [m4]
 ·simp [m5]
 ·simp [sg]
 ·refine (pcs.pci ok sz).pres (ex:=none) ?_ (by dsimp only; omega) (by simp);exact Pres.set (Pres.refl _ _ _) (.inr (by decide))
 ·exact Pres.set (Pres.refl _ _ _) (.inr (by decide))
 ·dsimp only; omega
 ·dsimp only; omega
theorem sw1 (hc:c.ok) (hm:c.kind % 8=1) (h:ChT cn cs L i xs c z x pc ps s) (k:Ex->MSt->Option RV) (hk:∀ s2 fh,ChI cn cs L i fh s2->k .nrm s2=some r):q1b.run (evC allT q01) (evK allT q01) s k=some r:=by
 obtain ⟨⟨e1,e4,e5,e6,m4,m5,nds,nx⟩,⟨n7,e7,m7⟩,e8,⟨kk,e9,sb⟩,e67,hz,pcs,ok,sz⟩:=h;rw [hm] at e67;have mc:=nds.num _ (yj hz);have eg:=nds.row;have g:=q2P hz 2 (by omega);have za:∀ v,q0f false 1 (z * 5 + 2) (q0n xs) (.int .u8 v) .no=some (q0n (xs.set z ({ x with b:=v },pc))):=fun v=>q2B hz 2 (by omega) _ .no rfl rfl
 obtain ⟨R1,sg⟩:∃ R1:Int->List Slot,∀ v,q0n (xs.set z ({ x with b:=v },pc))=R1 v:=⟨_,fun v=>rfl⟩;simp only [sg] at za;simp only [q7h] at g;simp at g;generalize zj:q0n xs=R0 at *
 simp only [q7s] at m7;have h7:∀ n,¬ (7=13/\n=2):=by simp
 simp [q1b,-V,-y3,-y0,J,-q0Y,-q0f,q0K,q0S,q0o,q0p,e7,m7,e8,e67,eg,g,za];refine hk _ (xs.set z ({ x with b:=IntKind.u8.wrap (IntKind.u8.wrap (x.b + c.b.tmod 5) - 2) },pc)) ⟨?_,?_,?_,?_,?_,?_,nds.upd hz ?_ ⟨mc.1,mc.2.1,u8w _,mc.2.2.2⟩ ?_ ?_ ?_ (.inl rfl),?_⟩
 ·simp [e1]
 ·simp [e4]
 ·simp [e5]
 ·simp [e6]
 ·simp [m4]
 ·simp [m5]
 ·simp [sg]
 ·refine (pcs.pci ok sz).pres (ex:=none) ?_ (by dsimp only; omega) (by simp);exact Pres.set (Pres.refl _ _ _) (.inr (by decide))
 ·exact Pres.set (Pres.refl _ _ _) (.inr (by decide))
 ·dsimp only; omega
 ·dsimp only; omega
theorem sw3 (hc:c.ok) (hm:c.kind % 8=3) (h:ChT cn cs L i xs c z x pc ps s) (k:Ex->MSt->Option RV) (hk:∀ s2 fh,ChI cn cs L i fh s2->k .nrm s2=some r):q1b.run (evC allT q01) (evK allT q01) s k=some r:=by
 obtain ⟨⟨e1,e4,e5,e6,m4,m5,nds,nx⟩,⟨n7,e7,m7⟩,e8,⟨kk,e9,sb⟩,e67,hz,pcs,ok,sz⟩:=h;rw [hm] at e67;have mc:=nds.num _ (yj hz);have eg:=nds.row;have g:=q2P hz 3 (by omega);have za:∀ v,q0f false 1 (z * 5 + 3) (q0n xs) (.int .u8 v) .no=some (q0n (xs.set z ({ x with c:=v },pc))):=fun v=>q2B hz 3 (by omega) _ .no rfl rfl
 obtain ⟨R1,sg⟩:∃ R1:Int->List Slot,∀ v,q0n (xs.set z ({ x with c:=v },pc))=R1 v:=⟨_,fun v=>rfl⟩;simp only [sg] at za;simp only [q7h] at g;simp at g;generalize zj:q0n xs=R0 at *
 simp only [q7s] at m7;have h7:∀ n,¬ (7=13/\n=2):=by simp
 simp [q1b,-V,-y3,-y0,J,-q0Y,-q0f,q0K,q0S,q0o,q0p,e7,m7,e8,e67,eg,g,za];refine hk _ (xs.set z ({ x with c:=IntKind.u8.wrap (x.c + c.a) },pc)) ⟨?_,?_,?_,?_,?_,?_,nds.upd hz ?_ ⟨mc.1,mc.2.1,mc.2.2.1,u8w _⟩ ?_ ?_ ?_ (.inl rfl),?_⟩
 ·simp [e1]
 ·simp [e4]
 ·simp [e5]
 ·simp [e6]
 ·simp [m4]
 ·simp [m5]
 ·simp [sg]
 ·refine (pcs.pci ok sz).pres (ex:=none) ?_ (by dsimp only; omega) (by simp);exact Pres.set (Pres.refl _ _ _) (.inr (by decide))
 ·exact Pres.set (Pres.refl _ _ _) (.inr (by decide))
 ·dsimp only; omega
 ·dsimp only; omega
theorem sw2 (hc:c.ok) (hm:c.kind % 8=2) (h:ChT cn cs L i xs c z x pc ps s) (k:Ex->MSt->Option RV) (hk:∀ s2 fh,ChI cn cs L i fh s2->k .nrm s2=some r):q1b.run (evC allT q01) (evK allT q01) s k=some r:=by
 obtain ⟨⟨e1,e4,e5,e6,m4,m5,nds,nx⟩,⟨n7,e7,m7⟩,e8,⟨kk,e9,sb⟩,e67,hz,pcs,ok,sz⟩:=h;rw [hm] at e67;have mc:=nds.num _ (yj hz);have eg:=nds.row;have g:=q2P hz 1 (by omega);have za:∀ v,q0f false 1 (z * 5 + 1) (q0n xs) (.int .u8 v) .no=some (q0n (xs.set z ({ x with a:=v },pc))):=fun v=>q2B hz 1 (by omega) _ .no rfl rfl
 obtain ⟨R1,sg⟩:∃ R1:Int->List Slot,∀ v,q0n (xs.set z ({ x with a:=v },pc))=R1 v:=⟨_,fun v=>rfl⟩;simp only [sg] at za;simp only [q7h] at g;simp at g;generalize zj:q0n xs=R0 at *
 simp only [q7s] at m7;have h7:∀ n,¬ (7=13/\n=2):=by simp
 have h6:c.a.tmod 6=c.a % 6:=yy hc.2.2.1.1;have wM:0<=c.a % 6:=yJ _ (by omega);simp [q1b,-V,-y3,-y0,J,-q0Y,-q0f,q0K,q0S,q0o,q0p,h6,wM,bitsC,e7,m7,e8,e67,eg,g,za];refine hk _ (xs.set z ({ x with a:=IntKind.u8.wrap (((x.a % 2 ^ IntKind.u8.bits).toNat ^^^ (IntKind.u8.wrap (2 ^ shN IntKind.u8 (c.a % 6)) % 2 ^ IntKind.u8.bits).toNat:Nat):Int) },pc)) ⟨?_,?_,?_,?_,?_,?_,nds.upd hz ?_ ⟨mc.1,u8w _,mc.2.2⟩ ?_ ?_ ?_ (.inl rfl),?_⟩
 ·simp [e1]
 ·simp [e4]
 ·simp [e5]
 ·simp [e6]
 ·simp [m4]
 ·simp [m5]
 ·simp [sg]
 ·refine (pcs.pci ok sz).pres (ex:=none) ?_ (by dsimp only; omega) (by simp);exact Pres.set (Pres.refl _ _ _) (.inr (by decide))
 ·exact Pres.set (Pres.refl _ _ _) (.inr (by decide))
 ·dsimp only; omega
 ·dsimp only; omega
end
end
section
theorem Pres.setX {n:Nat} {ex:Option Nat} {M M':Nat->Nat->Option (List Slot)} (h:Pres n ex M M') {t' n':Nat} {r:List Slot} (hn:ex=some n'):Pres n ex M (setM M' t' n' r):=fun t N ps ht hN hx hm=>by
 rw [q0B,if_neg]
 ·exact h t N ps ht hN hx hm
 ·rintro ⟨rfl,rfl⟩;exact hx hn.symm
section
variable {r:RV} {cn:Bool} {cs:List Chg} {L i:Nat} {xs:List Nd} {c:Chg} {z:Nat} {x:Nde} {pc:Slot} {ps:List Prt} {s:MSt}
theorem ChI.nothing {E:Nat->Slot} {n:Nat} (h:ChI cn cs L i xs s) (h1:(E 1).v=(s.env 1).v) (h4:(E 4).v=(s.env 4).v) (h5:(E 5).v=(s.env 5).v) (h6:(E 6).v=(s.env 6).v) (hn:s.next<=n):ChI cn cs L i xs ⟨E,s.mem,n,s.obj,s.gh⟩:=by
 obtain ⟨e1,e4,e5,e6,m4,m5,nds,nx⟩:=h;exact ⟨h1.trans e1,h4.trans e4,h5.trans e5,h6.trans e6,m4,m5,⟨nds.len,nds.row,nds.num,fun q hq=>(nds.pc q hq).pres (ex:=none) (Pres.refl _ _ _) hn (by simp),nds.dist⟩,by dsimp only; omega⟩
theorem sw6 (hc:c.ok) (hm:c.kind % 8=6) (h:ChT cn cs L i xs c z x pc ps s) (k:Ex->MSt->Option RV) (hk:∀ s2 fh,ChI cn cs L i fh s2->k .nrm s2=some r):q1b.run (evC allT q01) (evK allT q01) s k=some r:=by
 obtain ⟨ch,⟨n7,e7,m7⟩,e8,⟨kk,e9,sb⟩,e67,hz,pcs,ok,sz⟩:=h;have xx:=ch;obtain ⟨e1,e4,e5,e6,m4,m5,nds,nx⟩:=ch;rw [hm] at e67;have mc:=nds.num _ (yj hz);have eg:=nds.row;have g:=q2P hz 4 (by omega);simp only [q7h] at g;simp at g;simp only [q7s] at m7;rcases pcs with ⟨rfl,rfl⟩ | ⟨oa,N,rfl,hN,lx⟩
 ·generalize zj:q0n xs=R0 at *
  simp [q1b,-V,-y3,-y0,J,-q0Y,-q0f,q0K,q0S,q0o,q0p,e7,m7,e8,e67,eg,g];refine hk _ xs (xx.nothing ?_ ?_ ?_ ?_ ?_)
  ·simp
  ·simp
  ·simp
  ·simp
  ·omega
 ·have kh:=sb oa;have mh:0<ps.length:=List.length_pos_iff.2 oa;have ki:(0:Int)<ps.length:=by omega
  have pz:(kk:Int)<ps.length:=by omega
  obtain ⟨p,hp⟩:∃ p,ps[kk]?=some p:=⟨_,y5 kh⟩;have za:=row_set1 (q5S ps) (k:=kk) (c:=prtC p) (by rw [yc,hp]; rfl) (j:=2) (by simp [prtC]) (x:=.int .u8 c.b) rfl 1;have xt:q0c ((ps.map prtC).set kk ((prtC p).set 2 (.int .u8 c.b)))=q0c ((ps.set kk { p with flag:=c.b }).map prtC):=by
   rw [List.map_set]; rfl
  rw [xt] at za;have jm:=ok p (yj hp);have zn:∀ q∈ps.set kk { p with flag:=c.b },q.ok:=fun q hq=>by
   rcases List.mem_or_eq_of_mem_set hq with hq | rfl
   ·exact ok q hq
   ·exact ⟨jm.1,jm.2.1,hc.2.2.2⟩
  generalize zj:q0n xs=R0 at *
  generalize sG:q0c (ps.map prtC)=R2 at *
  generalize tG:q0c ((ps.set kk { p with flag:=c.b }).map prtC)=R3 at *
  have nN:¬ (13=47/\2=N):=by simp
  simp [q1b,-V,-y3,-y0,J,-q0Y,-q0f,q0K,q0S,q0o,q0p,e7,m7,e8,e9,e67,eg,g,mh,ki,kh,pz,lx,za];refine hk _ (xs.set z (x,⟨.ref 47 N 3 0 ps.length ps.length,.no⟩)) ⟨?_,?_,?_,?_,?_,?_,nds.upd hz ?_ mc ?_ ?_ ?_ (.inl rfl),?_⟩
  ·simp [e1]
  ·simp [e4]
  ·simp [e5]
  ·simp [e6]
  ·simp [m4]
  ·simp [m5]
  ·rw [set_self hz];simp [eg,zj]
  ·refine .inr ⟨47,N,ps.length,ps.set kk { p with flag:=c.b },by simp,.inl rfl,by dsimp only; omega,by rw [tG]; simp,zn,by simpa using sz⟩
  ·exact Pres.setX (Pres.refl _ _ _) rfl
  ·dsimp only; omega
  ·dsimp only; omega
theorem sw7 (hc:c.ok) (hm:c.kind % 8=7) (h:ChT cn cs L i xs c z x pc ps s) (k:Ex->MSt->Option RV) (hk:∀ s2 fh,ChI cn cs L i fh s2->k .nrm s2=some r):q1b.run (evC allT q01) (evK allT q01) s k=some r:=by
 obtain ⟨ch,⟨n7,e7,m7⟩,e8,⟨kk,e9,sb⟩,e67,hz,pcs,ok,sz⟩:=h;have xx:=ch;obtain ⟨e1,e4,e5,e6,m4,m5,nds,nx⟩:=ch;rw [hm] at e67;have mc:=nds.num _ (yj hz);have eg:=nds.row;have g:=q2P hz 4 (by omega);simp only [q7h] at g;simp at g;simp only [q7s] at m7;rcases pcs with ⟨rfl,rfl⟩ | ⟨oa,N,rfl,hN,lx⟩
 ·generalize zj:q0n xs=R0 at *
  simp [q1b,-V,-y3,-y0,J,-q0Y,-q0f,q0K,q0S,q0o,q0p,e7,m7,e8,e67,eg,g];refine hk _ xs (xx.nothing ?_ ?_ ?_ ?_ ?_)
  ·simp
  ·simp
  ·simp
  ·simp
  ·omega
 ·have kh:=sb oa;have mh:0<ps.length:=List.length_pos_iff.2 oa;have ki:(0:Int)<ps.length:=by omega
  have pz:(kk:Int)<ps.length:=by omega
  obtain ⟨p,hp⟩:∃ p,ps[kk]?=some p:=⟨_,y5 kh⟩;have za:=row_set1 (q5S ps) (k:=kk) (c:=prtC p) (by rw [yc,hp]; rfl) (j:=1) (by simp [prtC]) (x:=.int .u8 (IntKind.u8.wrap (p.ty + c.b))) rfl 1;have zA:=row_get1 (q5S ps) (k:=kk) (c:=prtC p) (by rw [yc,hp]; rfl) (j:=1) (v:=.int .u8 p.ty) (by simp [prtC]) 1;rw [q0K] at zA;have xt:q0c ((ps.map prtC).set kk ((prtC p).set 1 (.int .u8 (IntKind.u8.wrap (p.ty + c.b)))))=q0c ((ps.set kk { p with ty:=IntKind.u8.wrap (p.ty + c.b) }).map prtC):=by
   rw [List.map_set]; rfl
  rw [xt] at za;have jm:=ok p (yj hp);have zn:∀ q∈ps.set kk { p with ty:=IntKind.u8.wrap (p.ty + c.b) },q.ok:=fun q hq=>by
   rcases List.mem_or_eq_of_mem_set hq with hq | rfl
   ·exact ok q hq
   ·exact ⟨jm.1,u8w _,jm.2.2⟩
  generalize zj:q0n xs=R0 at *
  generalize sG:q0c (ps.map prtC)=R2 at *
  generalize tG:q0c ((ps.set kk { p with ty:=IntKind.u8.wrap (p.ty + c.b) }).map prtC)=R3 at *
  have nN:¬ (13=47/\2=N):=by simp
  simp [q1b,-V,-y3,-y0,J,-q0Y,-q0f,q0K,q0S,q0o,q0p,e7,m7,e8,e9,e67,eg,g,mh,ki,kh,pz,lx,za,zA];refine hk _ (xs.set z (x,⟨.ref 47 N 3 0 ps.length ps.length,.no⟩)) ⟨?_,?_,?_,?_,?_,?_,nds.upd hz ?_ mc ?_ ?_ ?_ (.inl rfl),?_⟩
  ·simp [e1]
  ·simp [e4]
  ·simp [e5]
  ·simp [e6]
  ·simp [m4]
  ·simp [m5]
  ·rw [set_self hz];simp [eg,zj]
  ·refine .inr ⟨47,N,ps.length,ps.set kk { p with ty:=IntKind.u8.wrap (p.ty + c.b) },by simp,.inl rfl,by dsimp only; omega,by rw [tG]; simp,zn,by simpa using sz⟩
  ·exact Pres.setX (Pres.refl _ _ _) rfl
  ·dsimp only; omega
  ·dsimp only; omega
theorem sw4 (hc:c.ok) (hm:c.kind % 8=4) (h:ChT cn cs L i xs c z x pc ps s) (k:Ex->MSt->Option RV) (hk:∀ s2 fh,ChI cn cs L i fh s2->k .nrm s2=some r):q1b.run (evC allT q01) (evK allT q01) s k=some r:=by
 obtain ⟨ch,⟨n7,e7,m7⟩,e8,⟨kk,e9,sb⟩,e67,hz,pcs,ok,sz⟩:=h;have xx:=ch;obtain ⟨e1,e4,e5,e6,m4,m5,nds,nx⟩:=ch;rw [hm] at e67;have mc:=nds.num _ (yj hz);have eg:=nds.row;have g:=q2P hz 4 (by omega);simp only [q7h] at g;simp at g;simp only [q7s] at m7;obtain ⟨zp,xA,hO,gO⟩:=hc;have wm:u8 (IntKind.u8.wrap (c.a.tdiv 12)):=u8w _;have hq:(⟨c.a,c.b,IntKind.u8.wrap (c.a.tdiv 12)⟩:Prt).ok:=⟨hO,gO,wm⟩;generalize ah:IntKind.u8.wrap (c.a.tdiv 12)=fl at *
 have za:∀ n l y,(xs.set z (x,y))[z]?=some (x,y)->q0f false 1 (z * 5 + 4) (q0n (xs.set z (x,y))) (.ref 168 n 3 0 l l) .no=some (q0n (xs.set z (x,⟨.ref 168 n 3 0 l l,.no⟩))):=fun n l y hy=>by
  rw [q2B hy 4 (by omega) _ .no rfl rfl (q':=(x,⟨.ref 168 n 3 0 l l,.no⟩)),List.set_set]
 have jk:=(yb.1 hz).1;have room3:q0G 3 1=true:=by decide
 rcases pcs with ⟨rfl,rfl⟩ | ⟨oa,N,rfl,hN,lx⟩
 ·have ng:∀ n l,q0f false 1 (z * 5 + 4) (q0n xs) (.ref 168 n 3 0 l l) .no=some (q0n (xs.set z (x,⟨.ref 168 n 3 0 l l,.no⟩))):=fun n l=>q2B hz 4 (by omega) _ .no rfl rfl
  obtain ⟨R1,sg⟩:∃ R1:Nat->Nat->List Slot,∀ n l,q0n (xs.set z (x,⟨.ref 168 n 3 0 l l,.no⟩))=R1 n l:=⟨_,fun n l=>rfl⟩;simp only [sg] at ng;generalize zj:q0n xs=R0 at *
  simp [q1b,-V,-y3,-y0,J,-q0Y,-q0f,q0K,q0S,q0o,q0p,e7,m7,e8,e67,eg,g,room3,ng,ah];refine hk _ (xs.set z (x,⟨.ref 168 (s.next + 6) 3 0 1 1,.no⟩)) ⟨?_,?_,?_,?_,?_,?_,nds.upd hz ?_ mc ?_ ?_ ?_ (.inr fun M hM=>?_),?_⟩
  ·simp [e1]
  ·simp [e4]
  ·simp [e5]
  ·simp [e6]
  ·simp [m4]
  ·simp [m5]
  ·simp [sg]
  ·refine .inr ⟨168,s.next + 6,1,[⟨c.a,c.b,fl⟩],rfl,.inr (.inl rfl),by dsimp only; omega,by simp [prtC],by simpa using hq,by simp⟩
  ·exact Pres.set (Pres.set (Pres.refl _ _ _) (.inl (by omega))) (.inr (by decide))
  ·dsimp only; omega
  ·simp [nmM] at hM; omega
  ·dsimp only; omega
 ·by_cases h8:ps.length<8
  ·have h8i:(ps.length:Int)<8:=by omega
   have kh:=ndsRow_kill nds hz (t:=47) (N:=N) rfl;have iI:(q0n xs).map (Slot.kill 47 N)=q0n (xs.set z (x,⟨.undef,.no⟩)):=by
    rw [kh];simp [Slot.kill_mk,AV.kill,AV.kill0]
   have ng:∀ n,q0f false 1 (z * 5 + 4) ((q0n xs).map (Slot.kill 47 N)) (.ref 168 n 3 0 (ps.length + 1) (ps.length + 1)) .no=some (q0n (xs.set z (x,⟨.ref 168 n 3 0 (ps.length + 1) (ps.length + 1),.no⟩))):=fun n=>by
    rw [iI];exact za n (ps.length + 1) _ (List.getElem?_set_self jk)
   obtain ⟨R1,sg⟩:∃ R1:Nat->List Slot,∀ n,q0n (xs.set z (x,⟨.ref 168 n 3 0 (ps.length + 1) (ps.length + 1),.no⟩))=R1 n:=⟨_,fun n=>rfl⟩;simp only [sg] at ng;have q3:=q5S ps;have eh:q2R (q0c (ps.map prtC)) 3 0 ps.length=some (ps.map prtC):=by
    have:=q50 (q5S ps) (q8S ps);simpa using this
   have ba:q0G 3 (ps.length + 1)=true:=by rw [q0d]; omega
   have oh:q0c (ps.map prtC++[[AV.int .u8 c.a,AV.int .u8 c.b,AV.int .u8 fl]])=q0c ((ps++[(⟨c.a,c.b,fl⟩:Prt)]).map prtC):=by simp [prtC]
   generalize zj:q0n xs=R0 at *
   generalize sG:q0c (ps.map prtC)=R2 at *
   have mh:0<ps.length:=List.length_pos_iff.2 oa;simp [q1b,-V,-y3,-y0,J,-q0Y,-q0f,q0K,q0S,q0o,q0p,e7,m7,e8,e67,eg,g,ng,ah,h8,h8i,lx,eh,ba,q3,Cl.okMem];refine hk _ (xs.set z (x,⟨.ref 168 (s.next + 6) 3 0 (ps.length + 1) (ps.length + 1),.no⟩)) ⟨?_,?_,?_,?_,?_,?_,nds.upd hz ?_ mc ?_ ?_ ?_ (.inr fun M hM=>?_),?_⟩
   ·simp [e1]
   ·simp [e4]
   ·simp [e5]
   ·simp [e6]
   ·simp [m4]
   ·simp [m5]
   ·simp [sg]
   ·refine .inr ⟨168,s.next + 6,ps.length + 1,ps++[⟨c.a,c.b,fl⟩],by simp,.inr (.inl rfl),by dsimp only; omega,by rw [<- oh]; simp,?_,by simp; omega⟩;intro p hp;rcases yu.1 hp with hp | hp
    ·exact ok p hp
    ·simp at hp;rw [hp];exact hq
   ·exact Pres.set (Pres.set (Pres.kill (Pres.refl _ _ _) rfl) (.inl (by omega))) (.inr (by decide))
   ·dsimp only; omega
   ·simp [nmM] at hM; omega
   ·dsimp only; omega
  ·have h8i:¬ (ps.length:Int)<8:=by omega
   generalize zj:q0n xs=R0 at *
   simp [q1b,-V,-y3,-y0,J,-q0Y,-q0f,q0K,q0S,q0o,q0p,e7,m7,e8,e67,eg,g,h8,h8i];refine hk _ xs (xx.nothing ?_ ?_ ?_ ?_ ?_)
   ·simp
   ·simp
   ·simp
   ·simp
   ·omega
end
end
section
theorem rowEls_sub {sz:Nat} {L:List (List AV)} (h:q13 sz L=true) (hf:q2l L=true) {a b:Nat} (uf:a + b<=L.length):q2R (q0c L) sz (a * sz) b=some ((L.drop a).take b):=by
 have h1:=q50 h hf;have hl:=q51 h;unfold q2R at h1 ⊢;split at h1
 case isFalse=>cases h1
 rename_i hc;injection h1 with h1;have wb:a * sz + b * sz<=(q0c L).length:=by
  rw [hl,<- Nat.add_mul];exact yW _ uf
 rw [if_pos ⟨wb,hc.2⟩];congr 1;refine List.ext_getElem? fun i=>?_
 by_cases hi:i<b
 ·have e1:=congrArg (·[a + i]?) h1;simp only [yc] at e1;rw [List.getElem?_range (by omega)] at e1;rw [yc,List.getElem?_range hi,yR,if_pos hi,yQ,<- e1];simp only [yz,yF,Nat.add_mul]
 ·rw [yL (by simp; omega),yL (by simp; omega)]
section
variable {r:RV} {cn:Bool} {cs:List Chg} {L i:Nat} {xs:List Nd} {c:Chg} {z:Nat} {x:Nde} {pc:Slot} {ps:List Prt} {s:MSt}
theorem sw5 (hc:c.ok) (hm:c.kind % 8=5) (h:ChT cn cs L i xs c z x pc ps s) (k:Ex->MSt->Option RV) (hk:∀ s2 fh,ChI cn cs L i fh s2->k .nrm s2=some r):q1b.run (evC allT q01) (evK allT q01) s k=some r:=by
 obtain ⟨ch,⟨n7,e7,m7⟩,e8,⟨kk,e9,sb⟩,e67,hz,pcs,ok,sz⟩:=h;have xx:=ch;obtain ⟨e1,e4,e5,e6,m4,m5,nds,nx⟩:=ch;rw [hm] at e67;have mc:=nds.num _ (yj hz);have eg:=nds.row;have g:=q2P hz 4 (by omega);simp only [q7h] at g;simp at g;simp only [q7s] at m7;have jk:=(yb.1 hz).1;rcases pcs with ⟨rfl,rfl⟩ | ⟨oa,N,rfl,hN,lx⟩
 ·generalize zj:q0n xs=R0 at *
  simp [q1b,-V,-y3,-y0,J,-q0Y,-q0f,q0K,q0S,q0o,q0p,e7,m7,e8,e67,eg,g];refine hk _ xs (xx.nothing ?_ ?_ ?_ ?_ ?_)
  ·simp
  ·simp
  ·simp
  ·simp
  ·omega
 ·have kh:=sb oa;have mh:0<ps.length:=List.length_pos_iff.2 oa;have ki:(0:Int)<ps.length:=by omega
  have kL:=q0s (i:=kk);have xC:kk<=ps.length:=by omega
  have th:(0:Int)<=(kk:Int) + 1:=by omega
  have ur:=ndsRow_kill nds hz (t:=47) (N:=N) rfl;have oz:(q0n xs).map (Slot.kill 47 N)=q0n (xs.set z (x,⟨.undef,.no⟩)):=by
   rw [ur];simp [Slot.kill_mk,AV.kill,AV.kill0]
  have ng:∀ n l,q0f false 1 (z * 5 + 4) ((q0n xs).map (Slot.kill 47 N)) (.ref 193 n 3 0 l l) .no=some (q0n (xs.set z (x,⟨.ref 193 n 3 0 l l,.no⟩))):=fun n l=>by
   have hs:=q2B (show (xs.set z (x,(⟨.undef,.no⟩:Slot)))[z]?=some (x,⟨.undef,.no⟩) from List.getElem?_set_self jk) 4 (by omega) (.ref 193 n 3 0 l l) .no rfl (q':=(x,⟨.ref 193 n 3 0 l l,.no⟩)) rfl;rw [oz,hs,List.set_set]
  obtain ⟨R1,sg⟩:∃ R1:Nat->Nat->List Slot,∀ n l,q0n (xs.set z (x,⟨.ref 193 n 3 0 l l,.no⟩))=R1 n l:=⟨_,fun n l=>rfl⟩;simp only [sg] at ng;have q1:=q5S (ps.take kk);have q2:=q5S (ps.drop (kk + 1));have sD:q2R (q0c (ps.map prtC)) 3 0 kk=some ((ps.take kk).map prtC):=by
   have:=rowEls_sub (q5S ps) (q8S ps) (a:=0) (b:=kk) (by simp; omega);simpa [List.map_take] using this
  have zI:q2R (q0c (ps.map prtC)) 3 ((kk + 1) * 3) (ps.length - (kk + 1))=some ((ps.drop (kk + 1)).map prtC):=by
   have:=rowEls_sub (q5S ps) (q8S ps) (a:=kk + 1) (b:=ps.length - (kk + 1)) (by simp; omega);rw [this,List.map_drop,yD (by simp)]
  have ba:q0G 3 (kk + (ps.length - (kk + 1)))=true:=by rw [q0d]; omega
  have lg:q0G 3 kk=true:=by rw [q0d]; omega
  have zn:∀ q∈ps.take kk++ps.drop (kk + 1),q.ok:=fun q hq=>by
   rcases yu.1 hq with hq | hq
   ·exact ok q (List.mem_of_mem_take hq)
   ·exact ok q (List.mem_of_mem_drop hq)
  have jA:q0c ((ps.take kk).map prtC++(ps.drop (kk + 1)).map prtC)=q0c ((ps.take kk++ps.drop (kk + 1)).map prtC):=by rw [List.map_append]
  have xr:(ps.take kk).length=kk:=by rw [yC]; omega
  have nn:(ps.drop (kk + 1)).length=ps.length - (kk + 1):=List.length_drop;have ja:(ps.take kk++ps.drop (kk + 1)).length=kk + (ps.length - (kk + 1)):=by rw [yp,xr,nn]
  generalize hT:ps.take kk=T at *
  generalize hD:ps.drop (kk + 1)=D at *
  generalize zj:q0n xs=R0 at *
  generalize sG:q0c (ps.map prtC)=R2 at *
  by_cases uo:ps.length=kk + 1
  ·have aN:D=[]:=yN (by omega);subst aN;simp only [yO] at zn;simp [q1b,-V,-y3,-y0,J,-q0Y,-q0f,q0K,q0S,q0o,q0p,e7,m7,e8,e9,e67,eg,g,ng,mh,ki,xC,th,kL,lx,uo,sD,lg,q1,Cl.okMem,endC];refine hk _ (xs.set z (x,⟨.ref 193 (s.next + 7) 3 0 (kk) (kk),.no⟩)) ⟨?_,?_,?_,?_,?_,?_,nds.upd hz ?_ mc ?_ ?_ ?_ (.inr fun M hM=>?_),?_⟩
   ·simp [e1]
   ·simp [e4]
   ·simp [e5]
   ·simp [e6]
   ·simp [m4]
   ·simp [m5]
   ·simp [sg]
   ·refine .inr ⟨193,s.next + 7,kk,T,by rw [xr],.inr (.inr rfl),by dsimp only; omega,by simp,zn,by rw [xr]; omega⟩
   ·exact Pres.set (Pres.set (Pres.kill (Pres.refl _ _ _) rfl) (.inl (by omega))) (.inr (by decide))
   ·dsimp only; omega
   ·simp [nmM] at hM; omega
   ·dsimp only; omega
  ·have h1:kk + 1<=ps.length:=by omega
   simp [q1b,-V,-y3,-y0,J,-q0Y,-q0f,q0K,q0S,q0o,q0p,e7,m7,e8,e9,e67,eg,g,ng,mh,ki,xC,th,kL,lx,uo,h1,sD,zI,ba,q1,q2,nn,Cl.okMem,endC];refine hk _ (xs.set z (x,⟨.ref 193 (s.next + 7) 3 0 (kk + (ps.length - (kk + 1))) (kk + (ps.length - (kk + 1))),.no⟩)) ⟨?_,?_,?_,?_,?_,?_,nds.upd hz ?_ mc ?_ ?_ ?_ (.inr fun M hM=>?_),?_⟩
   ·simp [e1]
   ·simp [e4]
   ·simp [e5]
   ·simp [e6]
   ·simp [m4]
   ·simp [m5]
   ·simp [sg]
   ·refine .inr ⟨193,s.next + 7,kk + (ps.length - (kk + 1)),T++D,by rw [ja],.inr (.inr rfl),by dsimp only; omega,by rw [<- jA]; simp,zn,by rw [ja]; omega⟩
   ·exact Pres.set (Pres.set (Pres.kill (Pres.refl _ _ _) rfl) (.inl (by omega))) (.inr (by decide))
   ·dsimp only; omega
   ·simp [nmM] at hM; omega
   ·dsimp only; omega
theorem sw_ev (hc:c.ok) (h:ChT cn cs L i xs c z x pc ps s) (k:Ex->MSt->Option RV) (hk:∀ s2 fh,ChI cn cs L i fh s2->k .nrm s2=some r):q1b.run (evC allT q01) (evK allT q01) s k=some r:=by
 have h0:=yJ c.kind (b:=8) (by omega);have h1:=yM c.kind (b:=8) (by omega);by_cases m0:c.kind % 8=0
 ·exact sw0 hc m0 h k hk
 by_cases m1:c.kind % 8=1
 ·exact sw1 hc m1 h k hk
 by_cases m2:c.kind % 8=2
 ·exact sw2 hc m2 h k hk
 by_cases m3:c.kind % 8=3
 ·exact sw3 hc m3 h k hk
 by_cases m4:c.kind % 8=4
 ·exact sw4 hc m4 h k hk
 by_cases m5:c.kind % 8=5
 ·exact sw5 hc m5 h k hk
 by_cases m6:c.kind % 8=6
 ·exact sw6 hc m6 h k hk
 ·exact sw7 hc (by omega) h k hk
end
end
theorem rowRaw_v {R R':List Slot} (h:R.map (·.v)=R'.map (·.v)) (sz off len:Nat):q5G R sz off len=q5G R' sz off len:=by
 have hl:R.length=R'.length:=by simpa using congrArg List.length h
 unfold q5G;rw [hl];split
 ·congr 1;refine yl fun i _=>?_
  rw [List.map_take,List.map_take,List.map_drop,List.map_drop,h]
 ·rfl
theorem frz_rowV {s:MSt} {t n sz c:Nat} {L:List (List AV)} {R:List Slot} (h:q13 sz L=true) (hm:s.mem t n=some R) (hv:R.map (·.v)=(q0c L).map (·.v)) (hf:(L.map fun c=>c.map (AV.frz1 s)).flatten.all AV.free0=true):AV.frz0 s (.ref t n sz 0 L.length c)=.sl false (L.map fun c=>c.map (AV.frz1 s)):=by
 have hr:q5G R sz 0 L.length=some L:=by
  rw [rowRaw_v hv];exact q3D fun c hc=>by simpa using y4.1 h c hc
 have be:R.all (fun x=>x.v.free0)=(q0c L).all (fun x=>x.v.free0):=by
  have e:∀ q:List Slot,q.all (fun x=>x.v.free0)=(q.map (·.v)).all AV.free0:=fun q=>by rw [List.all_map]; rfl
  rw [e,e,hv]
 simp only [AV.frz0,hm,V,rowEls_eq,be];by_cases ta:(q0c L).all (fun x=>x.v.free0)=true
 ·rw [if_pos ta,hr];have:(L.map fun c=>c.map (AV.frz1 s))=L.map id:=yl fun c hc=>by
   have:c.map (AV.frz1 s)=c.map id:=yl fun v hv=>frz1_free (by
    have:=y4.1 ta ⟨v,.no⟩ (yw.2 ⟨v,List.mem_flatten.2 ⟨c,hc,hv⟩,rfl⟩);exact this)
   rwa [List.map_id] at this
  rw [this,List.map_id]
 ·rw [if_neg ta];simp only [rowDeep,hr,V];rw [if_pos hf]
def ndC (q:Nd):List AV:=(q7h q).map (·.v)
theorem ndsRow_v:∀ xs:List Nd,(q0n xs).map (·.v)=(q0c (xs.map ndC)).map (·.v)
 | []=>rfl
 | q :: r=>by
  have:=ndsRow_v r;unfold q0n q0c at this ⊢;simp only [List.flatMap_cons,List.map_append,yh,yB];rw [this];simp [ndC]
def Nde.sized (x:Nde):Prop:=x.parts.length * 3<=140737488355328
theorem nd_frz2 {L:Nat} {s:MSt} {xs:List Nd} (h:NdsI L s.mem s.next xs):∀ ys:List Nd,(∀ q∈ys,q∈xs)->∃ l':List Nde,(∀ x∈l',x.ok/\x.sized)/\((ys.map ndC).map fun c=>c.map (AV.frz1 s))=l'.map ndeC
 | [],_=>⟨[],by simp,rfl⟩
 | q :: r,hq=>by
  obtain ⟨l',h1,h2⟩:=nd_frz2 h r fun b hb=>hq b (by simp [hb])
  have hm:=hq q (by simp);have hn:=h.num q hm;have hx:∃ x':Nde,(x'.ok/\x'.sized)/\(ndC q).map (AV.frz1 s)=ndeC x':=by
   rcases h.pc q hm with ⟨nl,ps,a,e,_,h3,h4⟩ | ⟨t,N,c,ps,e,_,_,h3,h4,h5⟩
   ·refine ⟨⟨q.1.k,q.1.a,q.1.b,q.1.c,nl,ps⟩,⟨⟨hn.1,hn.2.1,hn.2.2.1,hn.2.2.2,by dsimp only; omega,h3⟩,by unfold Nde.sized; dsimp only; omega⟩,?_⟩;simp [ndC,q7h,e,AV.frz1,ndeC]
   ·refine ⟨⟨q.1.k,q.1.a,q.1.b,q.1.c,false,ps⟩,⟨⟨hn.1,hn.2.1,hn.2.2.1,hn.2.2.2,by dsimp only; omega,h4⟩,by unfold Nde.sized; dsimp only; omega⟩,?_⟩;have:=q50 (q5S ps) (q8S ps);simp only [yo] at this;simp [ndC,q7h,e,AV.frz1,ndeC,h3,this]
  obtain ⟨x',h3,h4⟩:=hx;refine ⟨x' :: l',?_,?_⟩
  ·intro y hy;rcases yf.1 hy with rfl | hy
   ·exact h3
   ·exact h1 y hy
  ·simp only [yh,h4,h2]
def ChE2 (n:Nat) (e:Ex) (s:MSt):Prop:=e=.ret/\(s.env 4).v=.ptr 4 1 0/\((n=0/\s.mem 4 1=some [⟨.sl false [],.no⟩])\/∃ xs,s.mem 4 1=some [⟨.ref 13 2 5 0 n n,.no⟩]/\NdsI n s.mem s.next xs)
section
variable {dn cn:Bool} {l:List Nde} (hx:∀ x∈l,x.ok/\x.sized) (hl:l.length * 32<=140737488355328) {cs:List Chg} (hc:∀ c∈cs,c.ok) (jd:cs.length<=9223372036854775807)
include dn cn l hx hl cs hc jd
theorem changed_run2 (k:Ex->MSt->Option RV) (r:RV) (hk:∀ e s',ChE2 l.length e s'->k e s'=some r):q2c.code.run (evC allT q01) (evK allT q01) (MSt.init [.agg (dftC dn l),.sl cn (cs.map chgC)] none) k=some r:=by
 have lg:q0G 32 0=true:=by decide
 by_cases oa:l=[]
 ·subst oa;simp [q2c,dftC,-V,-y3,-y0,J,lg];refine q06 0 (fun _ s=>(s.env 1).v=.sl cn (cs.map chgC)/\(s.env 4).v=.ptr 4 1 0/\(s.env 5).v=.ptr 5 2 0/\(s.env 6).v=.int .i64 0/\s.mem 4 1=some [⟨.sl true [],.ex⟩]/\s.mem 5 2=some [⟨.sl false [],.no⟩])
   (fun e s=>e=.exit 0/\(s.env 4).v=.ptr 4 1 0/\(s.env 5).v=.ptr 5 2 0/\s.mem 4 1=some [⟨.sl true [],.ex⟩]/\s.mem 5 2=some [⟨.sl false [],.no⟩]) (fun i hi s k h ih hk=>?_) _ _ ?_ (fun e s h=>?_)
  ·obtain ⟨e1,e4,e5,e6,m4,m5⟩:=h;refine q02 ?_;by_cases h0:cs=[]
   ·subst h0;simp at e1;simp [q1c,-V,-y3,-y0,J,e1,e5,e6,m5];exact hk _ _ ⟨rfl,by simp [e4],by simp [e5],m4,m5⟩
   ·have h1:(0:Int)<cs.length:=by have:=List.length_pos_iff.2 h0; omega
    have h2:=List.length_pos_iff.2 h0;simp [q1c,-V,-y3,-y0,J,e1,e5,e6,m5,h1,h2];exact hk _ _ ⟨rfl,by simp [e4],by simp [e5],m4,m5⟩
  ·refine ⟨?_,?_,?_,?_,?_,?_⟩ <;> simp
  ·obtain ⟨rfl,e4,e5,m4,m5⟩:=h;simp [-V,-y3,-y0,J,e4,e5,m4,m5];exact hk _ _ ⟨rfl,by simp [e4],.inl ⟨by simp,by simp⟩⟩
 ·have mh:=List.length_pos_iff.2 oa;have ki:(0:Int)<l.length:=by omega
  have jg:l.isEmpty=false:=by simpa using oa
  have ba:q0G 32 l.length=true:=by rw [q0d]; omega
  have zd:q13 5 (l.map ndeC)=true:=q1a _ _ _ fun _=>rfl
  simp [q2c,dftC,-V,-y3,-y0,J,ba,zd,jg,oa];refine q06 cs.length (fun i s=>∃ xs,ChI cn cs l.length i xs s)
   (fun e s=>e=.exit 0/\∃ xs,ChI cn cs l.length cs.length xs s) (fun i hi s k h ih hk=>?_) _ _ ?_ (fun e s h=>?_)
  ·obtain ⟨xs,h⟩:=h;by_cases fa:i<cs.length
   ·refine chg_head fa jd hc mh (by omega) h k (fun s' cj c z x pc ps kk ir hT sb=>sw_ev (hc c ir) hT kk sb) (fun s' cj h'=>ih fa s' ⟨cj,h'⟩)
   ·have zf:i=cs.length:=by omega
    have ga:¬ (i:Int)<cs.length:=by omega
    refine q02 ?_;have e1:=h.e1;have e6:=h.e6;simp [q1c,-V,-y3,-y0,J,e1,e6,ga];rw [<- zf];refine hk _ _ ⟨rfl,xs,?_⟩;rw [<- zf];exact h.nothing (by simp) (by simp) (by simp) (by simp) (by omega)
  ·refine ⟨l.map fun x=>(x,⟨.sl x.pn (x.parts.map prtC),.no⟩),⟨?_,?_,?_,?_,?_,?_,⟨by simp,?_,?_,?_,?_⟩,?_⟩⟩
   ·simp
   ·simp
   ·simp
   ·simp
   ·simp
   ·simp
   ·have:q0c (l.map ndeC)=q0n (l.map fun x=>(x,⟨.sl x.pn (x.parts.map prtC),.no⟩)):=by
     unfold q0c q0n;rw [List.map_flatten,y0,List.flatMap_map];rfl
    simp [this]
   ·intro q hq;obtain ⟨x,ev,rfl⟩:=yw.1 hq;have:=(hx x ev).1;exact ⟨this.1,this.2.1,this.2.2.1,this.2.2.2.1⟩
   ·intro q hq;obtain ⟨x,ev,rfl⟩:=yw.1 hq;exact .inl ⟨x.pn,x.parts,.no,rfl,.inl rfl,(hx x ev).1.2.2.2.2.2,(hx x ev).2⟩
   ·intro j k a b N _ ha _ jy _;rw [yc] at ha;obtain ⟨x,_,rfl⟩:=yg.1 ha;simp [nmM] at jy
   ·simp
  ·obtain ⟨rfl,xs,e1,e4,e5,e6,m4,m5,nds,nx⟩:=h;simp [-V,-y3,-y0,J,e4,e5,m4,m5];refine hk _ _ ⟨rfl,by simp [e4],.inr ⟨xs,by simp,?_⟩⟩;exact ⟨nds.len,by simp [nds.row],nds.num,fun q hq=>(nds.pc q hq).pres (ex:=none) (Pres.set (Pres.refl _ _ _) (.inr (by decide))) (by dsimp only; omega) (by simp),nds.dist⟩
theorem changed_ev2:∃ r:RV,(∃ l':List Nde,(∀ x∈l',x.ok/\x.sized)/\l'.length=l.length/\r=(.agg (dftC false l'),none))/\evC allT q01 69 [.agg (dftC dn l),.sl cn (cs.map chgC)] none=some r:=by
 refine evC_reach allT_det q2c rfl rfl (F:=ChE2 l.length) (changed_run2 hx hl hc jd) fun e s' h=>?_
 have nd:q2c.res=[.cell 4 true 1]:=rfl;obtain ⟨rfl,e4,⟨pg,m4⟩ | ⟨xs,m4,nds⟩⟩:=h
 ·exact ⟨_,by simp [fin,nd,resC,e4,m4,q0Y,AV.frz,AV.frz0,finV,AV.free,AV.free0,pack]; rfl,[],by simp,by simp [pg],rfl⟩
 ·obtain ⟨l',h1,h2⟩:=nd_frz2 nds xs fun q hq=>hq
  have zd:q13 5 (xs.map ndC)=true:=q1a _ _ _ fun _=>rfl
  have g2:=frz_rowV (c:=l.length) zd nds.row (ndsRow_v xs) (by rw [h2]; simp [ndeC,AV.free0]);rw [yo,nds.len,h2] at g2;have f1:AV.frz s' (.agg [.ref 13 2 5 0 l.length l.length])=.agg [.sl false (l'.map ndeC)]:=by simp only [AV.frz,yh,yr,g2]
  exact ⟨_,by simp [fin,nd,resC,e4,m4,q0Y,f1,finV,AV.free,AV.free0,pack,-AV.frz,-AV.frz0]; rfl,l',h1,by have:=congrArg List.length h2; simp only [yo] at this; rw [<- this,nds.len],rfl⟩
end
end Go.Proofs.YtbnlmgncbgaepaaGreat
