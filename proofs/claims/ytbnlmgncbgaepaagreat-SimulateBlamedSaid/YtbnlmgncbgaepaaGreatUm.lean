/- A part of the proof. -/
import Derived.Test.YtbnlmgncbgaepaaGreatUk
import Derived.Test.YtbnlmgncbgaepaaGreatUl
set_option linter.all false
set_option maxRecDepth 100000
set_option maxHeartbeats 8000000
open Option renaming bind_some → y0, map_eq_some_iff → yh, map_some → yD
open List renaming range_succ → y3, map_map → y4, getElem?_eq_getElem → y6, all_eq_true → y7, getElem_mem → y8, getElem?_eq_some_iff → yb, getElem?_map → yc, drop_eq_getElem_cons → yf, mem_cons → yj, mem_of_getElem? → yk, map_cons → yl, length_map → yo, map_congr_left → yp, map_nil → yr, getElem?_append_left → yt, mem_map → yu, length_append → yy, getElem_of_mem → yA, mem_append → yB, flatten_cons → yE, length_take → yF, take_of_length_le → yG, length_cons → yK, getElem?_append_right → yM, getElem?_eq_none → yN, eq_nil_of_length_eq_zero → yQ, map_append → yR, getElem?_drop → yT, getElem?_take → yU
open Int renaming toNat_lt → y5, tmod_eq_emod_of_nonneg → yz, emod_nonneg → yI, emod_lt_of_pos → yP
open Nat renaming le_refl → ym, zero_add → yH, mul_le_mul_right → yY
namespace Go.Proofs.YtbnlmgncbgaepaaGreat
open Go
def q1c:C:=.block 2 (oR [oS 93 (.bin .eql false (.t 67) (.c (.int .u8 0))),oM 92 93] (oD 92 (.reg [oM 94 8,oM 95 8,oK 96 95,oF 97 1 96,oL 98 97,oF 99 2 7,oLr 100 7 1 99,oS 101 (.bin .rem false (.t 100) (.c (.int .u8 5))),oB 102 .add 98 101,oS 103 (.bin .sub false (.t 102) (.c (.int .u8 2))),oK 104 94,oF 105 1 104,oW 105 103]) (oR [oS 107 (.bin .eql false (.t 67) (.c (.int .u8 1))),oM 106 107] (oD 106 (.reg [oM 108 8,oM 109 8,oK 110 109,oF 111 2 110,oL 112 111,oF 113 3 7,oLr 114 7 1 113,oS 115 (.bin .rem false (.t 114) (.c (.int .u8 5))),oB 116 .add 112 115,oS 117 (.bin .sub false (.t 116) (.c (.int .u8 2))),oK 118 108,oF 119 2 118,oW 119 117]) (oR [oS 121 (.bin .eql false (.t 67) (.c (.int .u8 2))),oM 120 121] (oD 120 (.reg [oM 122 8,oM 123 8,oK 124 123,oF 125 1 124,oL 126 125,oF 127 2 7,oLr 128 7 1 127,oS 129 (.bin .rem false (.t 128) (.c (.int .u8 6))),oS 130 (.bin .shl false (.c (.int .u8 1)) (.t 129)),oB 131 .xor 126 130,oK 132 122,oF 133 1 132,oW 133 131]) (oR [oS 135 (.bin .eql false (.t 67) (.c (.int .u8 3))),oM 134 135] (oD 134 (.reg [oM 136 8,oM 137 8,oK 138 137,oF 139 3 138,oL 140 139,oF 141 2 7,oLr 142 7 1 141,oB 143 .add 140 142,oK 144 136,oF 145 3 144,oW 145 143]) (oR [oS 147 (.bin .eql false (.t 67) (.c (.int .u8 4))),oM 146 147] (oD 146 (oR [oM 148 8,oK 149 148,oF 150 4 149,oL 151 150,oH 152 151,oC 153 .lss 152 8] (oD 153 (.reg [oM 154 8,oM 155 8,oK 156 155,oF 157 4 156,oL 158 157,oF 159 2 7,oLr 160 7 1 159,oF 161 3 7,oLr 162 7 1 161,oF 163 2 7,oLr 164 7 1 163,oS 165 (.bin .quo false (.t 164) (.c (.int .u8 12))),oS 166 (.build zzg [(0,(1,(.t 160))),(1,(1,(.t 162))),(2,(1,(.t 165)))]),oS 167 (.bsl zzg 1 [(0,(.t 166))]),oS 168 (.appm .any 165 3 3 (.t 158) (.t 167)),oK 169 154,oF 170 4 169,oW 170 168]) .skip)) (oR [oS 172 (.bin .eql false (.t 67) (.c (.int .u8 5))),oM 171 172] (oD 171 (oR [oM 173 8,oK 174 173,oF 175 4 174,oL 176 175,oH 177 176,oC 178 .gtr 177 0] (oD 178 (.reg [oM 179 8,oM 180 8,oK 181 180,oF 182 4 181,oL 183 182,oM 184 9,oS 185 (.slc false 3 (.t 183) .none (.some (.t 184)) .none),oM 186 8,oK 187 186,oF 188 4 187,oL 189 188,oM 190 9,oC 191 .add 190 1,oS 192 (.slc false 3 (.t 189) (.some (.t 191)) .none .none),oS 193 (.appm .any 165 3 3 (.t 185) (.t 192)),oK 194 179,oF 195 4 194,oW 195 193]) .skip)) (oR [oS 197 (.bin .eql false (.t 67) (.c (.int .u8 6))),oM 196 197] (oD 196 (oR [oM 198 8,oK 199 198,oF 200 4 199,oL 201 200,oH 202 201,oC 203 .gtr 202 0] (oD 203 (.reg [oM 204 8,oK 205 204,oF 206 4 205,oL 207 206,oM 208 9,oF 209 3 7,oLr 210 7 1 209,oI 211 3 207 208,oF 212 2 211,oW 212 210]) .skip)) (oR [oM 68 8,oK 69 68,oF 70 4 69,oL 71 70,oH 72 71,oC 73 .gtr 72 0] (oD 73 (.reg [oM 74 8,oK 75 74,oF 76 4 75,oL 77 76,oM 78 9,oM 79 8,oK 80 79,oF 81 4 80,oL 82 81,oM 83 9,oI 84 3 82 83,oF 85 1 84,oL 86 85,oF 87 3 7,oLr 88 7 1 87,oB 89 .add 86 88,oI 90 3 77 78,oF 91 1 90,oW 91 89]) .skip))))))))))))))))
theorem chg_L1:q1d=.seq (.seq (.reg [⟨(.some 15),(.mv (.t 6)),.none⟩,⟨(.some 16),(.mv (.t 1)),.none⟩,⟨(.some 17),(.len .false (.t 16)),.none⟩,⟨(.some 18),(.bin .lss .false (.t 15) (.t 17)),.none⟩,⟨(.some 19),(.mv (.t 18)),.none⟩,⟨(.some 20),(.faddr 0 (.t 5)),(.some (19,.true))⟩,⟨(.some 21),(.load .any .false 1 (.t 20)),(.some (19,.true))⟩,⟨(.some 22),(.len .false (.t 21)),(.some (19,.true))⟩,⟨(.some 23),(.bin .gtr .false (.t 22) (.c (.int .i64 0))),(.some (19,.true))⟩,⟨(.some 24),(.pick (.t 19) (.t 23) (.c (.bool .false))),.none⟩]) (.cond (.t 24) .skip (.exit 0))) (.seq (.block 1 (.seq (.reg [⟨(.some 27),(.mv (.t 1)),.none⟩,⟨(.some 28),(.mv (.t 6)),.none⟩,⟨(.some 29),(.iaddr 4 (.t 27) (.t 28)),.none⟩,⟨(.some 30),(.load .any .true 4 (.t 29)),.none⟩,⟨(.some 7),(.alloc [(.int .u8 0),(.int .u8 0),(.int .u8 0),(.int .u8 0)]),.none⟩,⟨.none,(.store .any .true 4 (.t 7) (.t 30)),.none⟩]) (.seq (.reg [⟨(.some 31),(.faddr 0 (.t 5)),.none⟩,⟨(.some 32),(.load (.root 5) .false 1 (.t 31)),.none⟩,⟨(.some 33),(.faddr 1 (.t 7)),.none⟩,⟨(.some 34),(.load (.root 7) .false 1 (.t 33)),.none⟩,⟨(.some 35),(.conv (.some .i64) (.t 34)),.none⟩,⟨(.some 36),(.faddr 0 (.t 5)),.none⟩,⟨(.some 37),(.load (.root 5) .false 1 (.t 36)),.none⟩,⟨(.some 38),(.len .false (.t 37)),.none⟩,⟨(.some 39),(.bin .rem .false (.t 35) (.t 38)),.none⟩,⟨(.some 40),(.iaddr 5 (.t 32) (.t 39)),.none⟩,⟨(.some 8),(.mv (.t 40)),.none⟩]) (.seq (.reg [⟨(.some 41),(.mv (.t 8)),.none⟩,⟨(.some 42),(.bsl [(.int .u8 0),(.int .u8 0),(.int .u8 0)] 0 []),.none⟩,⟨(.some 43),(.mv (.t 8)),.none⟩,⟨(.some 44),(.nilchk (.t 43)),.none⟩,⟨(.some 45),(.faddr 4 (.t 44)),.none⟩,⟨(.some 46),(.load .any .false 1 (.t 45)),.none⟩,⟨(.some 47),(.appf .any 165 3 3 (.t 42) (.t 46)),.none⟩,⟨(.some 48),(.nilchk (.t 41)),.none⟩,⟨(.some 49),(.faddr 4 (.t 48)),.none⟩,⟨.none,(.store .any .false 1 (.t 49) (.t 47)),.none⟩]) (.seq (.reg [⟨(.some 9),(.mv (.c (.int .i64 0))),.none⟩]) (.seq (.seq (.reg [⟨(.some 50),(.mv (.t 8)),.none⟩,⟨(.some 51),(.nilchk (.t 50)),.none⟩,⟨(.some 52),(.faddr 4 (.t 51)),.none⟩,⟨(.some 53),(.load .any .false 1 (.t 52)),.none⟩,⟨(.some 54),(.len .false (.t 53)),.none⟩,⟨(.some 55),(.bin .gtr .false (.t 54) (.c (.int .i64 0))),.none⟩]) (.cond (.t 55) (.reg [⟨(.some 56),(.faddr 2 (.t 7)),.none⟩,⟨(.some 57),(.load (.root 7) .false 1 (.t 56)),.none⟩,⟨(.some 58),(.conv (.some .i64) (.t 57)),.none⟩,⟨(.some 59),(.mv (.t 8)),.none⟩,⟨(.some 60),(.nilchk (.t 59)),.none⟩,⟨(.some 61),(.faddr 4 (.t 60)),.none⟩,⟨(.some 62),(.load .any .false 1 (.t 61)),.none⟩,⟨(.some 63),(.len .false (.t 62)),.none⟩,⟨(.some 64),(.bin .rem .false (.t 58) (.t 63)),.none⟩,⟨(.some 9),(.mv (.t 64)),.none⟩]) .skip)) (.seq (.reg [⟨(.some 65),(.faddr 0 (.t 7)),.none⟩,⟨(.some 66),(.load .any .false 1 (.t 65)),.none⟩,⟨(.some 67),(.bin .rem .false (.t 66) (.c (.int .u8 8))),.none⟩]) q1c))))))) (.reg [⟨(.some 25),(.mv (.t 6)),.none⟩,⟨(.some 26),(.bin .add .false (.t 25) (.c (.int .i64 1))),.none⟩,⟨(.some 6),(.mv (.t 26)),.none⟩])):=rfl
structure Chg where
 kind:Int
 node:Int
 a:Int
 b:Int
def chgC (c:Chg):List AV:=[.int .u8 c.kind,.int .u8 c.node,.int .u8 c.a,.int .u8 c.b]
def Chg.ok (c:Chg):Prop:=u8 c.kind/\u8 c.node/\u8 c.a/\u8 c.b
def q6W (c:Chg):List Slot:=[⟨.int .u8 c.kind,.no⟩,⟨.int .u8 c.node,.no⟩,⟨.int .u8 c.a,.no⟩,⟨.int .u8 c.b,.no⟩]
abbrev Nd:=Nde × Slot
def q6P (q:Nd):List Slot:=[⟨.int .u8 q.1.k,.no⟩,⟨.int .u8 q.1.a,.no⟩,⟨.int .u8 q.1.b,.no⟩,⟨.int .u8 q.1.c,.no⟩,q.2]
def q0p (xs:List Nd):List Slot:=xs.flatMap q6P
theorem q9Q:∀ xs:List Nd,(q0p xs).length=xs.length * 5
 | []=>rfl
 | q :: r=>by
  have:=q9Q r;unfold q0p at this ⊢;rw [List.flatMap_cons,yy,this,yK];simp [q6P];omega
section
variable {xs:List Nd} {z:Nat}
include xs z
theorem q86 {q:Nd} (h:xs[z]?=some q):q0p xs=q0p (xs.take z)++(q6P q++q0p (xs.drop (z + 1)))/\(q0p (xs.take z)).length=z * 5:=by
 obtain ⟨hz,rfl⟩:=yb.1 h;refine ⟨?_,by rw [q9Q,yF]; omega⟩;have e:xs=xs.take z++(xs[z] :: xs.drop (z + 1)):=by rw [<- yf hz,List.take_append_drop]
 refine (congrArg q0p e).trans ?_;unfold q0p;rw [List.flatMap_append,List.flatMap_cons]
theorem q2R {q:Nd} (h:xs[z]?=some q) (o:Nat) (ho:o<5):(q0p xs)[z * 5 + o]?=(q6P q)[o]?:=by
 obtain ⟨h1,h2⟩:=q86 h;rw [h1,yM (by omega),h2,Nat.add_sub_cancel_left,yt (by simp [q6P]; omega)]
theorem ndsRow_set {q q':Nd} (h:xs[z]?=some q) (o:Nat) (ho:o<5) (y:Slot) (hq:(q6P q).set o y=q6P q'):(q0p xs).set (z * 5 + o) y=q0p (xs.set z q'):=by
 obtain ⟨h1,h2⟩:=q86 h;have hz:=(yb.1 h).1;have h':(xs.set z q')[z]?=some q':=List.getElem?_set_self hz;obtain ⟨g1,g2⟩:=q86 h';rw [h1,g1,List.set_append_right _ _ (by omega),h2,Nat.add_sub_cancel_left,List.set_append_left _ _ (by simp [q6P]; omega),hq];rw [List.take_set_of_le (ym z),List.drop_set_of_lt (Nat.lt_succ_self z)]
theorem q2C {q q':Nd} (h:xs[z]?=some q) (o:Nat) (ho:o<5) (v:AV) (a:An) (hv:v.leaf=true) (hq:(q6P q).set o ⟨v,a⟩=q6P q'):q0c false 1 (z * 5 + o) (q0p xs) v a=some (q0p (xs.set z q')):=by
 have hz:=(yb.1 h).1;have hl:=q9Q xs;simp only [q0c,hv];rw [<- ndsRow_set h o ho _ hq];simp;omega
end
def nmM (x:Slot):Option Nat:=match x.v with
 | .ref _ M _ _ _ _=>some M
 | _=>none
def PcI (M:Nat->Nat->Option (List Slot)) (n:Nat) (x:Slot):Prop :=
 (∃ (nl:Bool) (ps:List Prt) (a:An),x=⟨.sl nl (ps.map prtC),a⟩/\(a=.no\/a=.ex)/\(∀ p∈ps,p.ok)/\ps.length * 3<=140737488355328) ∨
 ∃ (t N c:Nat) (ps:List Prt),x=⟨.ref t N 3 0 ps.length c,.no⟩/\(t=47\/t=168\/t=193)/\N<n/\M t N=some (q07 (ps.map prtC))/\(∀ p∈ps,p.ok)/\ps.length * 3<=140737488355328
def Pres (n:Nat) (ex:Option Nat) (M M':Nat->Nat->Option (List Slot)):Prop:=∀ (t N:Nat) (ps:List Prt),(t=47\/t=168\/t=193)->N<n->some N≠ex->M t N=some (q07 (ps.map prtC))->M' t N=some (q07 (ps.map prtC))
theorem Pres.refl (n:Nat) (ex:Option Nat) (M:Nat->Nat->Option (List Slot)):Pres n ex M M:=fun _ _ _ _ _ _ h=>h
theorem Pres.set {n:Nat} {ex:Option Nat} {M M':Nat->Nat->Option (List Slot)} (h:Pres n ex M M') {t' n':Nat} {r:List Slot} (hn:n<=n'\/¬ (t'=47\/t'=168\/t'=193)):Pres n ex M (setM M' t' n' r):=fun t N ps ht hN hx hm=>by
 rw [q0C,if_neg]
 ·exact h t N ps ht hN hx hm
 ·rintro ⟨rfl,rfl⟩;rcases hn with hn | hn
  ·omega
  ·exact hn ht
theorem q8r (ps:List Prt):q2g (ps.map prtC)=true:=q4X prtC ps fun p=>by simp [prtC,AV.free0]
theorem q5x (ps:List Prt):q1a 3 (ps.map prtC)=true:=q1h _ _ _ fun _=>rfl
theorem Pres.kill {n:Nat} {ex:Option Nat} {M M':Nat->Nat->Option (List Slot)} (h:Pres n ex M M') {t' n':Nat} (hn:ex=some n'):Pres n ex M (killM t' n' M'):=fun t N ps ht hN hx hm=>by
 rw [q0E,if_neg,h t N ps ht hN hx hm]
 ·simp only [yD,qa8 (q8r ps)]
 ·rintro ⟨rfl,rfl⟩;exact hx hn.symm
theorem PcI.pres {M M':Nat->Nat->Option (List Slot)} {n n':Nat} {x:Slot} (h:PcI M n x) {ex:Option Nat} (hp:Pres n ex M M') (hn:n<=n') (hx:∀ N,nmM x=some N->some N≠ex):PcI M' n' x:=by
 rcases h with h | ⟨t,N,c,ps,rfl,h1,h2,h3,h4,h5⟩
 ·exact .inl h
 ·exact .inr ⟨t,N,c,ps,rfl,h1,by omega,hp t N ps h1 h2 (hx N rfl) h3,h4,h5⟩
structure NdsI (L:Nat) (M:Nat->Nat->Option (List Slot)) (n:Nat) (xs:List Nd):Prop where
 len:xs.length=L
 row:M 13 2=some (q0p xs)
 num:∀ q∈xs,u8 q.1.k/\u8 q.1.a/\u8 q.1.b/\u8 q.1.c
 pc:∀ q∈xs,PcI M n q.2
 dist:∀ (j k:Nat) (a b:Nd) (N:Nat),j≠k->xs[j]?=some a->xs[k]?=some b->nmM a.2=some N->nmM b.2=some N->False
theorem NdsI.upd {L:Nat} {M M':Nat->Nat->Option (List Slot)} {n n':Nat} {xs:List Nd} (h:NdsI L M n xs) {z:Nat} {q q':Nd} (hz:xs[z]?=some q) (la:M' 13 2=some (q0p (xs.set z q'))) (mc:u8 q'.1.k/\u8 q'.1.a/\u8 q'.1.b/\u8 q'.1.c) (nf:PcI M' n' q'.2) (hp:Pres n (nmM q.2) M M') (hn:n<=n') (wb:nmM q'.2=nmM q.2\/∀ N,nmM q'.2=some N->n<=N):NdsI L M' n' (xs.set z q'):=by
 have rk:=(yb.1 hz).1;have iB:∀ (k:Nat) (b:Nd),k≠z->xs[k]?=some b->PcI M' n' b.2:=fun k b hk hb=>(h.pc b (yk hb)).pres hp hn fun N hN e=>h.dist k z b q N hk hb hz hN e.symm
 have mi:∀ (k:Nat) (b:Nd),(xs.set z q')[k]?=some b->(k=z/\b=q')\/(k≠z/\xs[k]?=some b):=fun k b hb=>by
  rw [List.getElem?_set] at hb;by_cases e:z=k
  ·rw [if_pos e,if_pos rk] at hb;injection hb with hb;exact .inl ⟨e.symm,hb.symm⟩
  ·rw [if_neg e] at hb;exact .inr ⟨fun h=>e h.symm,hb⟩
 have we:∀ (b:Nd) (N:Nat),b∈xs->nmM b.2=some N->N<n:=fun b N hb hN=>by
  rcases h.pc b hb with ⟨nl,ps,a,e,_⟩ | ⟨t,N',c,ps,e,_,h2,_⟩
  ·rw [e] at hN; simp [nmM] at hN
  ·rw [e] at hN; simp [nmM] at hN; omega
 refine ⟨by simp [h.len],la,fun b hb=>?_,fun b hb=>?_,fun j k a b N wQ ha hb xz jD=>?_⟩
 ·obtain ⟨k,hk,rfl⟩:=yA hb;rcases mi k _ (y6 hk) with ⟨_,e⟩ | ⟨_,e⟩
  ·rw [e]; exact mc
  ·exact h.num _ (yk e)
 ·obtain ⟨k,hk,rfl⟩:=yA hb;rcases mi k _ (y6 hk) with ⟨_,e⟩ | ⟨tc,e⟩
  ·rw [e]; exact nf
  ·exact iB k _ tc e
 ·rcases mi j a ha with ⟨hj,rfl⟩ | ⟨hj,ls⟩
  ·rcases mi k b hb with ⟨hk,rfl⟩ | ⟨hk,wa⟩
   ·omega
   ·rcases wb with e | e
    ·exact h.dist z k q b N (by omega) hz wa (by rw [<- e]; exact xz) jD
    ·have:=e N xz;have:=we b N (yk wa) jD;omega
  ·rcases mi k b hb with ⟨hk,rfl⟩ | ⟨hk,wa⟩
   ·rcases wb with e | e
    ·exact h.dist j z a q N (by omega) ls hz xz (by rw [<- e]; exact jD)
    ·have:=e N jD;have:=we a N (yk ls) xz;omega
   ·exact h.dist j k a b N wQ ls wa xz jD
theorem ndsRow_kill {L:Nat} {M:Nat->Nat->Option (List Slot)} {n:Nat} {xs:List Nd} (h:NdsI L M n xs) {z:Nat} {q:Nd} (hz:xs[z]?=some q) {t N:Nat} (hN:nmM q.2=some N):(q0p xs).map (Slot.kill t N)=q0p (xs.set z (q.1,q.2.kill t N)):=by
 have rk:=(yb.1 hz).1;have e1:xs.map (fun b:Nd=>((b.1,b.2.kill t N):Nd))=xs.set z (q.1,q.2.kill t N):=by
  refine List.ext_getElem? fun k=>?_
  rw [yc,List.getElem?_set];by_cases e:z=k
  ·subst e;rw [if_pos rfl,if_pos rk,hz];rfl
  ·rw [if_neg e];cases hk:xs[k]? with
   | none=>rfl
   | some b =>
    have hb:b.2.kill t N=b.2:=by
     rcases h.pc b (yk hk) with ⟨nl,ps,a,e',_⟩ | ⟨t',N',c,ps,e',_⟩
     ·rw [e'];show (⟨AV.kill t N (.sl nl (ps.map prtC)),a⟩:Slot)=_;rfl
     ·have na:N'≠N:=fun e2=>h.dist k z b q N (fun e3=>e e3.symm) hk hz (by rw [e',e2]; rfl) hN
      rw [e'];simp [Slot.kill_mk,AV.kill,AV.kill0,na]
    simp only [yD,hb]
 rw [<- e1];unfold q0p;rw [List.map_flatMap,List.flatMap_map];congr 1
structure ChI (cn:Bool) (cs:List Chg) (L i:Nat) (xs:List Nd) (s:MSt):Prop where
 e1:(s.env 1).v=.sl cn (cs.map chgC)
 e4:(s.env 4).v=.ptr 4 1 0
 e5:(s.env 5).v=.ptr 5 2 0
 e6:(s.env 6).v=.int .i64 i
 m4:s.mem 4 1=some [⟨.sl true [],.ex⟩]
 m5:s.mem 5 2=some [⟨.ref 13 2 5 0 L L,.no⟩]
 nds:NdsI L s.mem s.next xs
 nx:2<s.next
def OwnP (s:MSt) (ps:List Prt) (pc:Slot):Prop:=(ps=[]/\pc=⟨.sl false [],.ex⟩)\/(ps≠[]/\∃ N,pc=⟨.ref 47 N 3 0 ps.length ps.length,.no⟩/\N<s.next/\s.mem 47 N=some (q07 (ps.map prtC)))
structure ChT (cn:Bool) (cs:List Chg) (L i:Nat) (xs:List Nd) (c:Chg) (z:Nat) (x:Nde) (pc:Slot) (ps:List Prt) (s:MSt):Prop where
 ch:ChI cn cs L i xs s
 e7:∃ n7,(s.env 7).v=.ptr 7 n7 0/\s.mem 7 n7=some (q6W c)
 e8:(s.env 8).v=.ptr 13 2 (z * 5)
 e9:∃ kk:Nat,(s.env 9).v=.int .i64 kk/\(ps≠[]->kk<ps.length)
 e67:(s.env 67).v=.int .u8 (c.kind % 8)
 hz:xs[z]?=some (x,pc)
 pcs:OwnP s ps pc
 ok:∀ p∈ps,p.ok
 sz:ps.length * 3<=140737488355328
theorem chg_head {r:RV} {cn:Bool} {cs:List Chg} {L i:Nat} (hi:i<cs.length) (ad:cs.length<=9223372036854775807) (sa:∀ c∈cs,c.ok) (mG:0<L) (iD:L<=140737488355328) {xs:List Nd} {s:MSt} (h:ChI cn cs L i xs s) (k:Ex->MSt->Option RV)
  (hk:∀ s' ij c z x pc ps (kk:Ex->MSt->Option RV),c∈cs->ChT cn cs L i ij c z x pc ps s'->(∀ s2 sh,ChI cn cs L i sh s2->kk .nrm s2=some r)->q1c.run (evC allT q01) (evK allT q01) s' kk=some r)
  (ih:∀ s' ij,ChI cn cs L (i + 1) ij s'->evL allT q01 q1d s' k=some r):evL allT q01 q1d s k=some r:=by
 obtain ⟨e1,e4,e5,e6,m4,m5,nds,nx⟩:=h;refine q02 ?_;have fa:(i:Int)<cs.length:=by omega
 have g1:(cs.map chgC)[i]?=some (chgC cs[i]):=by simp [hi]
 have rf:=q0H (i:=i);have ft:=y8 hi;have dQ:=sa _ ft;generalize cs[i]=c at *
 obtain ⟨⟨k1,k2⟩,⟨n1,n2⟩,⟨a1,a2⟩,b1,b2⟩:=dQ;simp only [chgC] at g1;have er:IntKind.i64.wrap c.node=c.node:=IntWalk.i64_in _ (by omega);have nF:IntKind.i64.wrap c.a=c.a:=IntWalk.i64_in _ (by omega);have hm:c.node.tmod L=c.node % L:=yz (by omega);have ec:=yI c.node (b:=(L:Int)) (by omega);have om:=yP c.node (b:=(L:Int)) (by omega);have h8:c.kind.tmod 8=c.kind % 8:=yz (by omega);have nG:(0:Int)<L:=by omega
 have rG:¬ L=0:=by omega
 generalize c.node % (L:Int)=zz at *
 have rk:zz.toNat<xs.length:=by rw [nds.len]; omega
 obtain ⟨q,hq⟩:∃ q,xs[zz.toNat]?=some q:=⟨_,y6 rk⟩;obtain ⟨x,pc⟩:=q;have mc:=nds.num _ (yk hq);have sB:(q0p xs)[zz.toNat * 5 + 4]?=some pc:=q2R hq 4 (by omega);have cont:∀ (s2:MSt) (sh:List Nd) (E:Nat->Slot),ChI cn cs L i sh s2->s2.env=E->ChI cn cs L (i + 1) sh ⟨putE (putE (putE E 25 ⟨.int .i64 i,(E 6).a⟩) 26 ⟨.int .i64 ((i + 1:Nat):Int),.no⟩) 6 ⟨.int .i64 ((i + 1:Nat):Int),.no⟩,s2.mem,s2.next + 1,s2.obj,s2.gh⟩:=fun s2 sh E h he=>by
  subst he;obtain ⟨e1,e4,e5,e6,m4,m5,nds,nx⟩:=h;exact ⟨by simp [e1],by simp [e4],by simp [e5],by simp,m4,m5,⟨nds.len,nds.row,nds.num,fun q hq=>(nds.pc q hq).pres (ex:=none) (Pres.refl _ _ _) (by dsimp only; omega) (by simp),nds.dist⟩,by dsimp only; omega⟩
 have fin:∀ (s':MSt) (ij:List Nd) (rL:Slot) (ps:List Prt),ChT cn cs L i ij c zz.toNat x rL ps s'->q1c.run (evC allT q01) (evK allT q01) s' (blkK 1 (seqK (evC allT q01) (evK allT q01) (.reg [⟨some 25,.mv (.t 6),none⟩,⟨some 26,.bin .add false (.t 25) (.c (.int .i64 1)),none⟩,⟨some 6,.mv (.t 26),none⟩]) (q8F (evL allT q01) q1d k)))=some r:=fun s' ij rL ps hT=>by
  refine hk s' ij c _ x rL ps _ ft hT (fun s2 sh h2=>?_);have e6:=h2.e6;simp [-y0,-y5,-y4,y3,e6,rf];exact ih _ _ (cont s2 sh _ h2 rfl)
 rw [chg_L1];have nf:=nds.pc _ (yk hq);have sq:∃ ps:List Prt,(∀ p∈ps,p.ok)/\ps.length * 3<=140737488355328/\((∃ nl a,pc=⟨.sl nl (ps.map prtC),a⟩)\/∃ t N c0,pc=⟨.ref t N 3 0 ps.length c0,.no⟩/\(t=47\/t=168\/t=193)/\N<s.next/\s.mem t N=some (q07 (ps.map prtC))):=by
  rcases nf with ⟨nl,ps,a,h1,_,h3,h4⟩ | ⟨t,N,c0,ps,h1,h2,h3,h4,h5,h6⟩
  ·exact ⟨ps,h3,h4,.inl ⟨nl,a,h1⟩⟩
  ·exact ⟨ps,h5,h6,.inr ⟨t,N,c0,h1,h2,h3,h4⟩⟩
 obtain ⟨ps,xm,lC,xy⟩:=sq;have kg:=nds.row;have iy:=q2C (q':=(x,⟨.sl false [],.ex⟩)) hq 4 (by omega) (.sl false []) .ex rfl rfl;have wg:∀ n,q0c false 1 (zz.toNat * 5 + 4) (q0p xs) (.ref 47 n 3 0 ps.length ps.length) .no=some (q0p (xs.set zz.toNat (x,⟨.ref 47 n 3 0 ps.length ps.length,.no⟩))):=fun n=>q2C hq 4 (by omega) _ .no rfl rfl
 have eC:∀ y,(xs.set zz.toNat (x,y))[zz.toNat]?=some (x,y):=fun y=>List.getElem?_set_self rk
 have jM:=q2R (eC ⟨.sl false [],.ex⟩) 4 (by omega);have iJ:∀ n,(q0p (xs.set zz.toNat (x,⟨.ref 47 n 3 0 ps.length ps.length,.no⟩)))[zz.toNat * 5 + 4]?=some ⟨.ref 47 n 3 0 ps.length ps.length,.no⟩:=fun n=>q2R (eC _) 4 (by omega)
 have eE:(q0p (xs.set zz.toNat (x,⟨.sl false [],.ex⟩)))[zz.toNat * 5 + 4]?=some ⟨.sl false [],.ex⟩:=jM;clear jM;have ka:q0Q 3 ps.length=true:=by rw [q0l]; omega
 have tg:q0Q 3 0=true:=by decide
 have rh:q2U (q07 (ps.map prtC)) 3 0 ps.length=some (ps.map prtC):=by
  have:=q3U (q5x ps) (q8r ps);simpa using this
 have q3:=q5x ps;have fr:∀ (n':Nat) (M':Nat->Nat->Option (List Slot)) (y:Slot),PcI M' n' y->Pres s.next (nmM pc) s.mem M'->s.next<=n'->M' 13 2=some (q0p (xs.set zz.toNat (x,y)))->(nmM y=nmM pc\/∀ N,nmM y=some N->s.next<=N)->NdsI L M' n' (xs.set zz.toNat (x,y)):=fun n' M' y h1 h2 h3 h4 h5=>nds.upd hq h4 mc h1 h2 h3 h5
 by_cases na:ps=[]
 ·have uE:∀ M' n',PcI M' n' ⟨.sl false [],.ex⟩:=fun M' n'=>.inl ⟨false,[],.ex,rfl,.inr rfl,by simp,by simp⟩
  rcases xy with ⟨nl,a,rfl⟩ | ⟨t,N,c0,rfl,ht,hN,wm⟩
  ·subst na;simp at sB;generalize gk:q0p xs=R0 at *
   generalize bh:q0p (xs.set zz.toNat (x,⟨.sl false [],.ex⟩))=R1 at *
   simp [-y0,-y5,-y4,y3,-q0M,-q0c,q0u,q0z,q0g,q0h,e1,e4,e5,e6,m4,m5,kg,fa,g1,nG,rG,mG,er,hm,ec,om,h8,sB,rf,iy,eE,tg];refine fin _ (xs.set zz.toNat (x,⟨.sl false [],.ex⟩)) ⟨.sl false [],.ex⟩ [] ⟨⟨?_,?_,?_,?_,?_,?_,fr _ _ _ ?_ ?_ ?_ ?_ ?_,?_⟩,⟨s.next + 1,?_,?_⟩,?_,⟨0,?_,?_⟩,?_,eC _,.inl ⟨rfl,rfl⟩,xm,lC⟩
   ·simp [e1]
   ·simp [e4]
   ·simp [e5]
   ·simp [e6]
   ·simp [m4]
   ·simp [m5]
   ·exact uE _ _
   ·dsimp only
    repeat (first | exact Pres.refl _ _ _ | refine Pres.set ?_ (.inr (by decide)) | refine Pres.set ?_ (.inl (by omega)))
   ·dsimp only; omega
   ·simp [bh]
   ·right;intro N hN;simp [nmM] at hN
    try omega
   ·dsimp only; omega
   ·simp
   ·simp [q6W]
   ·simp
   ·simp
   ·first | (intro _; omega) | simp
   ·simp
  ·subst na;simp at sB wm rh;generalize gk:q0p xs=R0 at *
   generalize bh:q0p (xs.set zz.toNat (x,⟨.sl false [],.ex⟩))=R1 at *
   have h7:¬ t=7:=by omega
   simp [-y0,-y5,-y4,y3,-q0M,-q0c,q0u,q0z,q0g,q0h,e1,e4,e5,e6,m4,m5,kg,fa,g1,nG,rG,mG,er,hm,ec,om,h8,sB,rf,iy,eE,tg,wm,rh,Cl.okMem,h7];refine fin _ (xs.set zz.toNat (x,⟨.sl false [],.ex⟩)) ⟨.sl false [],.ex⟩ [] ⟨⟨?_,?_,?_,?_,?_,?_,fr _ _ _ ?_ ?_ ?_ ?_ ?_,?_⟩,⟨s.next + 1,?_,?_⟩,?_,⟨0,?_,?_⟩,?_,eC _,.inl ⟨rfl,rfl⟩,xm,lC⟩
   ·simp [e1]
   ·simp [e4]
   ·simp [e5]
   ·simp [e6]
   ·simp [m4]
   ·simp [m5]
   ·exact uE _ _
   ·dsimp only
    repeat (first | exact Pres.refl _ _ _ | refine Pres.set ?_ (.inr (by decide)) | refine Pres.set ?_ (.inl (by omega)))
   ·dsimp only; omega
   ·simp [bh]
   ·right;intro N hN;simp [nmM] at hN
    try omega
   ·dsimp only; omega
   ·simp
   ·simp [q6W]
   ·simp
   ·simp
   ·first | (intro _; omega) | simp
   ·simp
 ·have rg:ps.isEmpty=false:=by simpa using na
  have eh:0<ps.length:=List.length_pos_iff.2 na;have ni:(0:Int)<ps.length:=by omega
  have zA:¬ ps.length=0:=by omega
  have mE:c.a.tmod ps.length=c.a % ps.length:=yz (by omega);have jl:=yI c.a (b:=(ps.length:Int)) (by omega);have ed:=yP c.a (b:=(ps.length:Int)) (by omega);obtain ⟨kk,ub⟩:∃ kk:Nat,c.a % (ps.length:Int)=kk:=⟨(c.a % (ps.length:Int)).toNat,by omega⟩;rw [ub] at mE ed;obtain ⟨R1,gA⟩:∃ R1:Nat->List Slot,∀ n,q0p (xs.set zz.toNat (x,⟨.ref 47 n 3 0 ps.length ps.length,.no⟩))=R1 n:=⟨_,fun n=>rfl⟩;simp only [gA] at wg iJ;rcases xy with ⟨nl,a,rfl⟩ | ⟨t,N,c0,rfl,ht,hN,wm⟩
  ·generalize gk:q0p xs=R0 at *
   simp [-y0,-y5,-y4,y3,-q0M,-q0c,q0u,q0z,q0g,q0h,e1,e4,e5,e6,m4,m5,kg,fa,g1,nG,rG,mG,er,hm,ec,om,h8,sB,rf,wg,iJ,ka,q3,rg,na,eh,ni,zA,nF,mE];refine fin _ (xs.set zz.toNat (x,⟨.ref 47 (s.next + 3) 3 0 ps.length ps.length,.no⟩)) ⟨.ref 47 (s.next + 3) 3 0 ps.length ps.length,.no⟩ ps ⟨⟨?_,?_,?_,?_,?_,?_,fr _ _ _ ?_ ?_ ?_ ?_ ?_,?_⟩,⟨s.next + 1,?_,?_⟩,?_,⟨kk,?_,?_⟩,?_,eC _,.inr ⟨na,s.next + 3,rfl,by dsimp only; omega,by simp⟩,xm,lC⟩
   ·simp [e1]
   ·simp [e4]
   ·simp [e5]
   ·simp [e6]
   ·simp [m4]
   ·simp [m5]
   ·exact .inr ⟨47,s.next + 3,ps.length,ps,rfl,.inl rfl,by dsimp only; omega,by simp,xm,lC⟩
   ·dsimp only
    repeat (first | exact Pres.refl _ _ _ | refine Pres.set ?_ (.inr (by decide)) | refine Pres.set ?_ (.inl (by omega)))
   ·dsimp only; omega
   ·simp [<- gA]
   ·right;intro N hN;simp [nmM] at hN
    try omega
   ·dsimp only; omega
   ·simp
   ·simp [q6W]
   ·simp
   ·simp
   ·first | (intro _; omega) | simp
   ·simp
  ·generalize gk:q0p xs=R0 at *
   have h7:¬ t=7:=by omega
   simp [-y0,-y5,-y4,y3,-q0M,-q0c,q0u,q0z,q0g,q0h,e1,e4,e5,e6,m4,m5,kg,fa,g1,nG,rG,mG,er,hm,ec,om,h8,sB,rf,wg,iJ,ka,q3,rg,na,eh,ni,zA,nF,mE,wm,rh,Cl.okMem,h7];refine fin _ (xs.set zz.toNat (x,⟨.ref 47 (s.next + 3) 3 0 ps.length ps.length,.no⟩)) ⟨.ref 47 (s.next + 3) 3 0 ps.length ps.length,.no⟩ ps ⟨⟨?_,?_,?_,?_,?_,?_,fr _ _ _ ?_ ?_ ?_ ?_ ?_,?_⟩,⟨s.next + 1,?_,?_⟩,?_,⟨kk,?_,?_⟩,?_,eC _,.inr ⟨na,s.next + 3,rfl,by dsimp only; omega,by simp⟩,xm,lC⟩
   ·simp [e1]
   ·simp [e4]
   ·simp [e5]
   ·simp [e6]
   ·simp [m4]
   ·simp [m5]
   ·exact .inr ⟨47,s.next + 3,ps.length,ps,rfl,.inl rfl,by dsimp only; omega,by simp,xm,lC⟩
   ·dsimp only
    repeat (first | exact Pres.refl _ _ _ | refine Pres.set ?_ (.inr (by decide)) | refine Pres.set ?_ (.inl (by omega)))
   ·dsimp only; omega
   ·simp [<- gA]
   ·right;intro N hN;simp [nmM] at hN
    try omega
   ·dsimp only; omega
   ·simp
   ·simp [q6W]
   ·simp
   ·simp
   ·first | (intro _; omega) | simp
   ·simp
section
theorem u8w (z:Int):u8 (IntKind.u8.wrap z):=by
 simp only [IntKind.wrap,IntKind.bits,IntKind.signed,u8];simp;omega
theorem set_self {α:Type} {xs:List α} {z:Nat} {q:α} (h:xs[z]?=some q):xs.set z q=xs:=by
 obtain ⟨hz,rfl⟩:=yb.1 h;exact List.set_getElem_self hz
theorem OwnP.pci {s:MSt} {ps:List Prt} {pc:Slot} (h:OwnP s ps pc) (ho:∀ p∈ps,p.ok) (hs:ps.length * 3<=140737488355328):PcI s.mem s.next pc:=by
 rcases h with ⟨rfl,rfl⟩ | ⟨_,N,rfl,h2,h3⟩
 ·exact .inl ⟨false,[],.ex,rfl,.inr rfl,by simp,by simp⟩
 ·exact .inr ⟨47,N,_,ps,rfl,.inl rfl,h2,h3,ho,hs⟩
section
variable {r:RV} {cn:Bool} {cs:List Chg} {L i:Nat} {xs:List Nd} {c:Chg} {z:Nat} {x:Nde} {pc:Slot} {ps:List Prt} {s:MSt}
theorem sw0 (hc:c.ok) (hm:c.kind % 8=0) (h:ChT cn cs L i xs c z x pc ps s) (k:Ex->MSt->Option RV) (hk:∀ s2 sh,ChI cn cs L i sh s2->k .nrm s2=some r):q1c.run (evC allT q01) (evK allT q01) s k=some r:=by
 obtain ⟨⟨e1,e4,e5,e6,m4,m5,nds,nx⟩,⟨n7,e7,m7⟩,e8,⟨kk,e9,ub⟩,e67,hz,pcs,ok,sz⟩:=h;rw [hm] at e67;have mc:=nds.num _ (yk hz);have kg:=nds.row;have g:=q2R hz 1 (by omega);have mb:∀ v,q0c false 1 (z * 5 + 1) (q0p xs) (.int .u8 v) .no=some (q0p (xs.set z ({ x with a:=v },pc))):=fun v=>q2C hz 1 (by omega) _ .no rfl rfl
 obtain ⟨R1,bh⟩:∃ R1:Int->List Slot,∀ v,q0p (xs.set z ({ x with a:=v },pc))=R1 v:=⟨_,fun v=>rfl⟩;simp only [bh] at mb;simp only [q6P] at g;simp at g;generalize gk:q0p xs=R0 at *
 simp only [q6W] at m7;have h7:∀ n,¬ (7=13/\n=2):=by simp
 simp [q1c,-y0,-y5,-y4,y3,-q0M,-q0c,q0u,q0z,q0g,q0h,e7,m7,e8,e67,kg,g,mb];refine hk _ (xs.set z ({ x with a:=IntKind.u8.wrap (IntKind.u8.wrap (x.a + c.a.tmod 5) - 2) },pc)) ⟨?_,?_,?_,?_,?_,?_,nds.upd hz ?_ ⟨mc.1,u8w _,mc.2.2⟩ ?_ ?_ ?_ (.inl rfl),?_⟩
 ·simp [e1]
 ·simp [e4]
 ·simp [e5]
 ·simp [e6]
 ·simp [m4]
 ·simp [m5]
 ·simp [bh]
 ·refine (pcs.pci ok sz).pres (ex:=none) ?_ (by dsimp only; omega) (by simp);exact Pres.set (Pres.refl _ _ _) (.inr (by decide))
 ·exact Pres.set (Pres.refl _ _ _) (.inr (by decide))
 ·dsimp only; omega
 ·dsimp only; omega
theorem sw1 (hc:c.ok) (hm:c.kind % 8=1) (h:ChT cn cs L i xs c z x pc ps s) (k:Ex->MSt->Option RV) (hk:∀ s2 sh,ChI cn cs L i sh s2->k .nrm s2=some r):q1c.run (evC allT q01) (evK allT q01) s k=some r:=by
 obtain ⟨⟨e1,e4,e5,e6,m4,m5,nds,nx⟩,⟨n7,e7,m7⟩,e8,⟨kk,e9,ub⟩,e67,hz,pcs,ok,sz⟩:=h;rw [hm] at e67;have mc:=nds.num _ (yk hz);have kg:=nds.row;have g:=q2R hz 2 (by omega);have mb:∀ v,q0c false 1 (z * 5 + 2) (q0p xs) (.int .u8 v) .no=some (q0p (xs.set z ({ x with b:=v },pc))):=fun v=>q2C hz 2 (by omega) _ .no rfl rfl
 obtain ⟨R1,bh⟩:∃ R1:Int->List Slot,∀ v,q0p (xs.set z ({ x with b:=v },pc))=R1 v:=⟨_,fun v=>rfl⟩;simp only [bh] at mb;simp only [q6P] at g;simp at g;generalize gk:q0p xs=R0 at *
 simp only [q6W] at m7;have h7:∀ n,¬ (7=13/\n=2):=by simp
 simp [q1c,-y0,-y5,-y4,y3,-q0M,-q0c,q0u,q0z,q0g,q0h,e7,m7,e8,e67,kg,g,mb];refine hk _ (xs.set z ({ x with b:=IntKind.u8.wrap (IntKind.u8.wrap (x.b + c.b.tmod 5) - 2) },pc)) ⟨?_,?_,?_,?_,?_,?_,nds.upd hz ?_ ⟨mc.1,mc.2.1,u8w _,mc.2.2.2⟩ ?_ ?_ ?_ (.inl rfl),?_⟩
 ·simp [e1]
 ·simp [e4]
 ·simp [e5]
 ·simp [e6]
 ·simp [m4]
 ·simp [m5]
 ·simp [bh]
 ·refine (pcs.pci ok sz).pres (ex:=none) ?_ (by dsimp only; omega) (by simp);exact Pres.set (Pres.refl _ _ _) (.inr (by decide))
 ·exact Pres.set (Pres.refl _ _ _) (.inr (by decide))
 ·dsimp only; omega
 ·dsimp only; omega
theorem sw3 (hc:c.ok) (hm:c.kind % 8=3) (h:ChT cn cs L i xs c z x pc ps s) (k:Ex->MSt->Option RV) (hk:∀ s2 sh,ChI cn cs L i sh s2->k .nrm s2=some r):q1c.run (evC allT q01) (evK allT q01) s k=some r:=by
 obtain ⟨⟨e1,e4,e5,e6,m4,m5,nds,nx⟩,⟨n7,e7,m7⟩,e8,⟨kk,e9,ub⟩,e67,hz,pcs,ok,sz⟩:=h;rw [hm] at e67;have mc:=nds.num _ (yk hz);have kg:=nds.row;have g:=q2R hz 3 (by omega);have mb:∀ v,q0c false 1 (z * 5 + 3) (q0p xs) (.int .u8 v) .no=some (q0p (xs.set z ({ x with c:=v },pc))):=fun v=>q2C hz 3 (by omega) _ .no rfl rfl
 obtain ⟨R1,bh⟩:∃ R1:Int->List Slot,∀ v,q0p (xs.set z ({ x with c:=v },pc))=R1 v:=⟨_,fun v=>rfl⟩;simp only [bh] at mb;simp only [q6P] at g;simp at g;generalize gk:q0p xs=R0 at *
 simp only [q6W] at m7;have h7:∀ n,¬ (7=13/\n=2):=by simp
 simp [q1c,-y0,-y5,-y4,y3,-q0M,-q0c,q0u,q0z,q0g,q0h,e7,m7,e8,e67,kg,g,mb];refine hk _ (xs.set z ({ x with c:=IntKind.u8.wrap (x.c + c.a) },pc)) ⟨?_,?_,?_,?_,?_,?_,nds.upd hz ?_ ⟨mc.1,mc.2.1,mc.2.2.1,u8w _⟩ ?_ ?_ ?_ (.inl rfl),?_⟩
 ·simp [e1]
 ·simp [e4]
 ·simp [e5]
 ·simp [e6]
 ·simp [m4]
 ·simp [m5]
 ·simp [bh]
 ·refine (pcs.pci ok sz).pres (ex:=none) ?_ (by dsimp only; omega) (by simp);exact Pres.set (Pres.refl _ _ _) (.inr (by decide))
 ·exact Pres.set (Pres.refl _ _ _) (.inr (by decide))
 ·dsimp only; omega
 ·dsimp only; omega
theorem sw2 (hc:c.ok) (hm:c.kind % 8=2) (h:ChT cn cs L i xs c z x pc ps s) (k:Ex->MSt->Option RV) (hk:∀ s2 sh,ChI cn cs L i sh s2->k .nrm s2=some r):q1c.run (evC allT q01) (evK allT q01) s k=some r:=by
 obtain ⟨⟨e1,e4,e5,e6,m4,m5,nds,nx⟩,⟨n7,e7,m7⟩,e8,⟨kk,e9,ub⟩,e67,hz,pcs,ok,sz⟩:=h;rw [hm] at e67;have mc:=nds.num _ (yk hz);have kg:=nds.row;have g:=q2R hz 1 (by omega);have mb:∀ v,q0c false 1 (z * 5 + 1) (q0p xs) (.int .u8 v) .no=some (q0p (xs.set z ({ x with a:=v },pc))):=fun v=>q2C hz 1 (by omega) _ .no rfl rfl
 obtain ⟨R1,bh⟩:∃ R1:Int->List Slot,∀ v,q0p (xs.set z ({ x with a:=v },pc))=R1 v:=⟨_,fun v=>rfl⟩;simp only [bh] at mb;simp only [q6P] at g;simp at g;generalize gk:q0p xs=R0 at *
 simp only [q6W] at m7;have h7:∀ n,¬ (7=13/\n=2):=by simp
 have h6:c.a.tmod 6=c.a % 6:=yz hc.2.2.1.1;have wO:0<=c.a % 6:=yI _ (by omega);simp [q1c,-y0,-y5,-y4,y3,-q0M,-q0c,q0u,q0z,q0g,q0h,h6,wO,bitsC,e7,m7,e8,e67,kg,g,mb];refine hk _ (xs.set z ({ x with a:=IntKind.u8.wrap (((x.a % 2 ^ IntKind.u8.bits).toNat ^^^ (IntKind.u8.wrap (2 ^ shN IntKind.u8 (c.a % 6)) % 2 ^ IntKind.u8.bits).toNat:Nat):Int) },pc)) ⟨?_,?_,?_,?_,?_,?_,nds.upd hz ?_ ⟨mc.1,u8w _,mc.2.2⟩ ?_ ?_ ?_ (.inl rfl),?_⟩
 ·simp [e1]
 ·simp [e4]
 ·simp [e5]
 ·simp [e6]
 ·simp [m4]
 ·simp [m5]
 ·simp [bh]
 ·refine (pcs.pci ok sz).pres (ex:=none) ?_ (by dsimp only; omega) (by simp);exact Pres.set (Pres.refl _ _ _) (.inr (by decide))
 ·exact Pres.set (Pres.refl _ _ _) (.inr (by decide))
 ·dsimp only; omega
 ·dsimp only; omega
end
end
section
theorem Pres.setX {n:Nat} {ex:Option Nat} {M M':Nat->Nat->Option (List Slot)} (h:Pres n ex M M') {t' n':Nat} {r:List Slot} (hn:ex=some n'):Pres n ex M (setM M' t' n' r):=fun t N ps ht hN hx hm=>by
 rw [q0C,if_neg]
 ·exact h t N ps ht hN hx hm
 ·rintro ⟨rfl,rfl⟩;exact hx hn.symm
section
variable {r:RV} {cn:Bool} {cs:List Chg} {L i:Nat} {xs:List Nd} {c:Chg} {z:Nat} {x:Nde} {pc:Slot} {ps:List Prt} {s:MSt}
theorem ChI.nothing {E:Nat->Slot} {n:Nat} (h:ChI cn cs L i xs s) (h1:(E 1).v=(s.env 1).v) (h4:(E 4).v=(s.env 4).v) (h5:(E 5).v=(s.env 5).v) (h6:(E 6).v=(s.env 6).v) (hn:s.next<=n):ChI cn cs L i xs ⟨E,s.mem,n,s.obj,s.gh⟩:=by
 obtain ⟨e1,e4,e5,e6,m4,m5,nds,nx⟩:=h;exact ⟨h1.trans e1,h4.trans e4,h5.trans e5,h6.trans e6,m4,m5,⟨nds.len,nds.row,nds.num,fun q hq=>(nds.pc q hq).pres (ex:=none) (Pres.refl _ _ _) hn (by simp),nds.dist⟩,by dsimp only; omega⟩
theorem sw6 (hc:c.ok) (hm:c.kind % 8=6) (h:ChT cn cs L i xs c z x pc ps s) (k:Ex->MSt->Option RV) (hk:∀ s2 sh,ChI cn cs L i sh s2->k .nrm s2=some r):q1c.run (evC allT q01) (evK allT q01) s k=some r:=by
 obtain ⟨ch,⟨n7,e7,m7⟩,e8,⟨kk,e9,ub⟩,e67,hz,pcs,ok,sz⟩:=h;have mz:=ch;obtain ⟨e1,e4,e5,e6,m4,m5,nds,nx⟩:=ch;rw [hm] at e67;have mc:=nds.num _ (yk hz);have kg:=nds.row;have g:=q2R hz 4 (by omega);simp only [q6P] at g;simp at g;simp only [q6W] at m7;rcases pcs with ⟨rfl,rfl⟩ | ⟨na,N,rfl,hN,az⟩
 ·generalize gk:q0p xs=R0 at *
  simp [q1c,-y0,-y5,-y4,y3,-q0M,-q0c,q0u,q0z,q0g,q0h,e7,m7,e8,e67,kg,g];refine hk _ xs (mz.nothing ?_ ?_ ?_ ?_ ?_)
  ·simp
  ·simp
  ·simp
  ·simp
  ·omega
 ·have bk:=ub na;have eh:0<ps.length:=List.length_pos_iff.2 na;have ni:(0:Int)<ps.length:=by omega
  have wA:(kk:Int)<ps.length:=by omega
  obtain ⟨p,hp⟩:∃ p,ps[kk]?=some p:=⟨_,y6 bk⟩;have mb:=row_set1 (q5x ps) (k:=kk) (c:=prtC p) (by rw [yc,hp]; rfl) (j:=2) (by simp [prtC]) (x:=.int .u8 c.b) rfl 1;have zu:q07 ((ps.map prtC).set kk ((prtC p).set 2 (.int .u8 c.b)))=q07 ((ps.set kk { p with flag:=c.b }).map prtC):=by
   rw [List.map_set]; rfl
  rw [zu] at mb;have xm:=ok p (yk hp);have di:∀ q∈ps.set kk { p with flag:=c.b },q.ok:=fun q hq=>by
   rcases List.mem_or_eq_of_mem_set hq with hq | rfl
   ·exact ok q hq
   ·exact ⟨xm.1,xm.2.1,hc.2.2.2⟩
  generalize gk:q0p xs=R0 at *
  generalize rI:q07 (ps.map prtC)=R2 at *
  generalize sI:q07 ((ps.set kk { p with flag:=c.b }).map prtC)=R3 at *
  have nP:¬ (13=47/\2=N):=by simp
  simp [q1c,-y0,-y5,-y4,y3,-q0M,-q0c,q0u,q0z,q0g,q0h,e7,m7,e8,e9,e67,kg,g,eh,ni,bk,wA,az,mb];refine hk _ (xs.set z (x,⟨.ref 47 N 3 0 ps.length ps.length,.no⟩)) ⟨?_,?_,?_,?_,?_,?_,nds.upd hz ?_ mc ?_ ?_ ?_ (.inl rfl),?_⟩
  ·simp [e1]
  ·simp [e4]
  ·simp [e5]
  ·simp [e6]
  ·simp [m4]
  ·simp [m5]
  ·rw [set_self hz];simp [kg,gk]
  ·refine .inr ⟨47,N,ps.length,ps.set kk { p with flag:=c.b },by simp,.inl rfl,by dsimp only; omega,by rw [sI]; simp,di,by simpa using sz⟩
  ·exact Pres.setX (Pres.refl _ _ _) rfl
  ·dsimp only; omega
  ·dsimp only; omega
theorem sw7 (hc:c.ok) (hm:c.kind % 8=7) (h:ChT cn cs L i xs c z x pc ps s) (k:Ex->MSt->Option RV) (hk:∀ s2 sh,ChI cn cs L i sh s2->k .nrm s2=some r):q1c.run (evC allT q01) (evK allT q01) s k=some r:=by
 obtain ⟨ch,⟨n7,e7,m7⟩,e8,⟨kk,e9,ub⟩,e67,hz,pcs,ok,sz⟩:=h;have mz:=ch;obtain ⟨e1,e4,e5,e6,m4,m5,nds,nx⟩:=ch;rw [hm] at e67;have mc:=nds.num _ (yk hz);have kg:=nds.row;have g:=q2R hz 4 (by omega);simp only [q6P] at g;simp at g;simp only [q6W] at m7;rcases pcs with ⟨rfl,rfl⟩ | ⟨na,N,rfl,hN,az⟩
 ·generalize gk:q0p xs=R0 at *
  simp [q1c,-y0,-y5,-y4,y3,-q0M,-q0c,q0u,q0z,q0g,q0h,e7,m7,e8,e67,kg,g];refine hk _ xs (mz.nothing ?_ ?_ ?_ ?_ ?_)
  ·simp
  ·simp
  ·simp
  ·simp
  ·omega
 ·have bk:=ub na;have eh:0<ps.length:=List.length_pos_iff.2 na;have ni:(0:Int)<ps.length:=by omega
  have wA:(kk:Int)<ps.length:=by omega
  obtain ⟨p,hp⟩:∃ p,ps[kk]?=some p:=⟨_,y6 bk⟩;have mb:=row_set1 (q5x ps) (k:=kk) (c:=prtC p) (by rw [yc,hp]; rfl) (j:=1) (by simp [prtC]) (x:=.int .u8 (IntKind.u8.wrap (p.ty + c.b))) rfl 1;have gC:=row_get1 (q5x ps) (k:=kk) (c:=prtC p) (by rw [yc,hp]; rfl) (j:=1) (v:=.int .u8 p.ty) (by simp [prtC]) 1;rw [q0u] at gC;have zu:q07 ((ps.map prtC).set kk ((prtC p).set 1 (.int .u8 (IntKind.u8.wrap (p.ty + c.b)))))=q07 ((ps.set kk { p with ty:=IntKind.u8.wrap (p.ty + c.b) }).map prtC):=by
   rw [List.map_set]; rfl
  rw [zu] at mb;have xm:=ok p (yk hp);have di:∀ q∈ps.set kk { p with ty:=IntKind.u8.wrap (p.ty + c.b) },q.ok:=fun q hq=>by
   rcases List.mem_or_eq_of_mem_set hq with hq | rfl
   ·exact ok q hq
   ·exact ⟨xm.1,u8w _,xm.2.2⟩
  generalize gk:q0p xs=R0 at *
  generalize rI:q07 (ps.map prtC)=R2 at *
  generalize sI:q07 ((ps.set kk { p with ty:=IntKind.u8.wrap (p.ty + c.b) }).map prtC)=R3 at *
  have nP:¬ (13=47/\2=N):=by simp
  simp [q1c,-y0,-y5,-y4,y3,-q0M,-q0c,q0u,q0z,q0g,q0h,e7,m7,e8,e9,e67,kg,g,eh,ni,bk,wA,az,mb,gC];refine hk _ (xs.set z (x,⟨.ref 47 N 3 0 ps.length ps.length,.no⟩)) ⟨?_,?_,?_,?_,?_,?_,nds.upd hz ?_ mc ?_ ?_ ?_ (.inl rfl),?_⟩
  ·simp [e1]
  ·simp [e4]
  ·simp [e5]
  ·simp [e6]
  ·simp [m4]
  ·simp [m5]
  ·rw [set_self hz];simp [kg,gk]
  ·refine .inr ⟨47,N,ps.length,ps.set kk { p with ty:=IntKind.u8.wrap (p.ty + c.b) },by simp,.inl rfl,by dsimp only; omega,by rw [sI]; simp,di,by simpa using sz⟩
  ·exact Pres.setX (Pres.refl _ _ _) rfl
  ·dsimp only; omega
  ·dsimp only; omega
theorem sw4 (hc:c.ok) (hm:c.kind % 8=4) (h:ChT cn cs L i xs c z x pc ps s) (k:Ex->MSt->Option RV) (hk:∀ s2 sh,ChI cn cs L i sh s2->k .nrm s2=some r):q1c.run (evC allT q01) (evK allT q01) s k=some r:=by
 obtain ⟨ch,⟨n7,e7,m7⟩,e8,⟨kk,e9,ub⟩,e67,hz,pcs,ok,sz⟩:=h;have mz:=ch;obtain ⟨e1,e4,e5,e6,m4,m5,nds,nx⟩:=ch;rw [hm] at e67;have mc:=nds.num _ (yk hz);have kg:=nds.row;have g:=q2R hz 4 (by omega);simp only [q6P] at g;simp at g;simp only [q6W] at m7;obtain ⟨et,uG,zP,gQ⟩:=hc;have wk:u8 (IntKind.u8.wrap (c.a.tdiv 12)):=u8w _;have hq:(⟨c.a,c.b,IntKind.u8.wrap (c.a.tdiv 12)⟩:Prt).ok:=⟨zP,gQ,wk⟩;generalize uh:IntKind.u8.wrap (c.a.tdiv 12)=fl at *
 have mb:∀ n l y,(xs.set z (x,y))[z]?=some (x,y)->q0c false 1 (z * 5 + 4) (q0p (xs.set z (x,y))) (.ref 168 n 3 0 l l) .no=some (q0p (xs.set z (x,⟨.ref 168 n 3 0 l l,.no⟩))):=fun n l y hy=>by
  rw [q2C hy 4 (by omega) _ .no rfl rfl (q':=(x,⟨.ref 168 n 3 0 l l,.no⟩)),List.set_set]
 have rk:=(yb.1 hz).1;have room3:q0Q 3 1=true:=by decide
 rcases pcs with ⟨rfl,rfl⟩ | ⟨na,N,rfl,hN,az⟩
 ·have wg:∀ n l,q0c false 1 (z * 5 + 4) (q0p xs) (.ref 168 n 3 0 l l) .no=some (q0p (xs.set z (x,⟨.ref 168 n 3 0 l l,.no⟩))):=fun n l=>q2C hz 4 (by omega) _ .no rfl rfl
  obtain ⟨R1,bh⟩:∃ R1:Nat->Nat->List Slot,∀ n l,q0p (xs.set z (x,⟨.ref 168 n 3 0 l l,.no⟩))=R1 n l:=⟨_,fun n l=>rfl⟩;simp only [bh] at wg;generalize gk:q0p xs=R0 at *
  simp [q1c,-y0,-y5,-y4,y3,-q0M,-q0c,q0u,q0z,q0g,q0h,e7,m7,e8,e67,kg,g,room3,wg,uh];refine hk _ (xs.set z (x,⟨.ref 168 (s.next + 6) 3 0 1 1,.no⟩)) ⟨?_,?_,?_,?_,?_,?_,nds.upd hz ?_ mc ?_ ?_ ?_ (.inr fun M hM=>?_),?_⟩
  ·simp [e1]
  ·simp [e4]
  ·simp [e5]
  ·simp [e6]
  ·simp [m4]
  ·simp [m5]
  ·simp [bh]
  ·refine .inr ⟨168,s.next + 6,1,[⟨c.a,c.b,fl⟩],rfl,.inr (.inl rfl),by dsimp only; omega,by simp [prtC],by simpa using hq,by simp⟩
  ·exact Pres.set (Pres.set (Pres.refl _ _ _) (.inl (by omega))) (.inr (by decide))
  ·dsimp only; omega
  ·simp [nmM] at hM; omega
  ·dsimp only; omega
 ·by_cases h8:ps.length<8
  ·have h8i:(ps.length:Int)<8:=by omega
   have bk:=ndsRow_kill nds hz (t:=47) (N:=N) rfl;have zJ:(q0p xs).map (Slot.kill 47 N)=q0p (xs.set z (x,⟨.undef,.no⟩)):=by
    rw [bk];simp [Slot.kill_mk,AV.kill,AV.kill0]
   have wg:∀ n,q0c false 1 (z * 5 + 4) ((q0p xs).map (Slot.kill 47 N)) (.ref 168 n 3 0 (ps.length + 1) (ps.length + 1)) .no=some (q0p (xs.set z (x,⟨.ref 168 n 3 0 (ps.length + 1) (ps.length + 1),.no⟩))):=fun n=>by
    rw [zJ];exact mb n (ps.length + 1) _ (List.getElem?_set_self rk)
   obtain ⟨R1,bh⟩:∃ R1:Nat->List Slot,∀ n,q0p (xs.set z (x,⟨.ref 168 n 3 0 (ps.length + 1) (ps.length + 1),.no⟩))=R1 n:=⟨_,fun n=>rfl⟩;simp only [bh] at wg;have q3:=q5x ps;have rh:q2U (q07 (ps.map prtC)) 3 0 ps.length=some (ps.map prtC):=by
    have:=q3U (q5x ps) (q8r ps);simpa using this
   have ka:q0Q 3 (ps.length + 1)=true:=by rw [q0l]; omega
   have wh:q07 (ps.map prtC++[[AV.int .u8 c.a,AV.int .u8 c.b,AV.int .u8 fl]])=q07 ((ps++[(⟨c.a,c.b,fl⟩:Prt)]).map prtC):=by simp [prtC]
   generalize gk:q0p xs=R0 at *
   generalize rI:q07 (ps.map prtC)=R2 at *
   have eh:0<ps.length:=List.length_pos_iff.2 na;simp [q1c,-y0,-y5,-y4,y3,-q0M,-q0c,q0u,q0z,q0g,q0h,e7,m7,e8,e67,kg,g,wg,uh,h8,h8i,az,rh,ka,q3,Cl.okMem];refine hk _ (xs.set z (x,⟨.ref 168 (s.next + 6) 3 0 (ps.length + 1) (ps.length + 1),.no⟩)) ⟨?_,?_,?_,?_,?_,?_,nds.upd hz ?_ mc ?_ ?_ ?_ (.inr fun M hM=>?_),?_⟩
   ·simp [e1]
   ·simp [e4]
   ·simp [e5]
   ·simp [e6]
   ·simp [m4]
   ·simp [m5]
   ·simp [bh]
   ·refine .inr ⟨168,s.next + 6,ps.length + 1,ps++[⟨c.a,c.b,fl⟩],by simp,.inr (.inl rfl),by dsimp only; omega,by rw [<- wh]; simp,?_,by simp; omega⟩;intro p hp;rcases yB.1 hp with hp | hp
    ·exact ok p hp
    ·simp at hp;rw [hp];exact hq
   ·exact Pres.set (Pres.set (Pres.kill (Pres.refl _ _ _) rfl) (.inl (by omega))) (.inr (by decide))
   ·dsimp only; omega
   ·simp [nmM] at hM; omega
   ·dsimp only; omega
  ·have h8i:¬ (ps.length:Int)<8:=by omega
   generalize gk:q0p xs=R0 at *
   simp [q1c,-y0,-y5,-y4,y3,-q0M,-q0c,q0u,q0z,q0g,q0h,e7,m7,e8,e67,kg,g,h8,h8i];refine hk _ xs (mz.nothing ?_ ?_ ?_ ?_ ?_)
   ·simp
   ·simp
   ·simp
   ·simp
   ·omega
end
end
section
theorem rowEls_sub {sz:Nat} {L:List (List AV)} (h:q1a sz L=true) (hf:q2g L=true) {a b:Nat} (jf:a + b<=L.length):q2U (q07 L) sz (a * sz) b=some ((L.drop a).take b):=by
 have h1:=q3U h hf;have hl:=q3V h;unfold q2U at h1 ⊢;split at h1
 case isFalse=>cases h1
 rename_i hc;injection h1 with h1;have gc:a * sz + b * sz<=(q07 L).length:=by
  rw [hl,<- Nat.add_mul];exact yY _ jf
 rw [if_pos ⟨gc,hc.2⟩];congr 1;refine List.ext_getElem? fun i=>?_
 by_cases hi:i<b
 ·have e1:=congrArg (·[a + i]?) h1;simp only [yc] at e1;rw [List.getElem?_range (by omega)] at e1;rw [yc,List.getElem?_range hi,yU,if_pos hi,yT,<- e1];simp only [yD,yH,Nat.add_mul]
 ·rw [yN (by simp; omega),yN (by simp; omega)]
section
variable {r:RV} {cn:Bool} {cs:List Chg} {L i:Nat} {xs:List Nd} {c:Chg} {z:Nat} {x:Nde} {pc:Slot} {ps:List Prt} {s:MSt}
theorem sw5 (hc:c.ok) (hm:c.kind % 8=5) (h:ChT cn cs L i xs c z x pc ps s) (k:Ex->MSt->Option RV) (hk:∀ s2 sh,ChI cn cs L i sh s2->k .nrm s2=some r):q1c.run (evC allT q01) (evK allT q01) s k=some r:=by
 obtain ⟨ch,⟨n7,e7,m7⟩,e8,⟨kk,e9,ub⟩,e67,hz,pcs,ok,sz⟩:=h;have mz:=ch;obtain ⟨e1,e4,e5,e6,m4,m5,nds,nx⟩:=ch;rw [hm] at e67;have mc:=nds.num _ (yk hz);have kg:=nds.row;have g:=q2R hz 4 (by omega);simp only [q6P] at g;simp at g;simp only [q6W] at m7;have rk:=(yb.1 hz).1;rcases pcs with ⟨rfl,rfl⟩ | ⟨na,N,rfl,hN,az⟩
 ·generalize gk:q0p xs=R0 at *
  simp [q1c,-y0,-y5,-y4,y3,-q0M,-q0c,q0u,q0z,q0g,q0h,e7,m7,e8,e67,kg,g];refine hk _ xs (mz.nothing ?_ ?_ ?_ ?_ ?_)
  ·simp
  ·simp
  ·simp
  ·simp
  ·omega
 ·have bk:=ub na;have eh:0<ps.length:=List.length_pos_iff.2 na;have ni:(0:Int)<ps.length:=by omega
  have iN:=q0H (i:=kk);have bE:kk<=ps.length:=by omega
  have jl:(0:Int)<=(kk:Int) + 1:=by omega
  have wt:=ndsRow_kill nds hz (t:=47) (N:=N) rfl;have uA:(q0p xs).map (Slot.kill 47 N)=q0p (xs.set z (x,⟨.undef,.no⟩)):=by
   rw [wt];simp [Slot.kill_mk,AV.kill,AV.kill0]
  have wg:∀ n l,q0c false 1 (z * 5 + 4) ((q0p xs).map (Slot.kill 47 N)) (.ref 193 n 3 0 l l) .no=some (q0p (xs.set z (x,⟨.ref 193 n 3 0 l l,.no⟩))):=fun n l=>by
   have hs:=q2C (show (xs.set z (x,(⟨.undef,.no⟩:Slot)))[z]?=some (x,⟨.undef,.no⟩) from List.getElem?_set_self rk) 4 (by omega) (.ref 193 n 3 0 l l) .no rfl (q':=(x,⟨.ref 193 n 3 0 l l,.no⟩)) rfl;rw [uA,hs,List.set_set]
  obtain ⟨R1,bh⟩:∃ R1:Nat->Nat->List Slot,∀ n l,q0p (xs.set z (x,⟨.ref 193 n 3 0 l l,.no⟩))=R1 n l:=⟨_,fun n l=>rfl⟩;simp only [bh] at wg;have q1:=q5x (ps.take kk);have q2:=q5x (ps.drop (kk + 1));have eF:q2U (q07 (ps.map prtC)) 3 0 kk=some ((ps.take kk).map prtC):=by
   have:=rowEls_sub (q5x ps) (q8r ps) (a:=0) (b:=kk) (by simp; omega);simpa [List.map_take] using this
  have nK:q2U (q07 (ps.map prtC)) 3 ((kk + 1) * 3) (ps.length - (kk + 1))=some ((ps.drop (kk + 1)).map prtC):=by
   have:=rowEls_sub (q5x ps) (q8r ps) (a:=kk + 1) (b:=ps.length - (kk + 1)) (by simp; omega);rw [this,List.map_drop,yG (by simp)]
  have ka:q0Q 3 (kk + (ps.length - (kk + 1)))=true:=by rw [q0l]; omega
  have tg:q0Q 3 kk=true:=by rw [q0l]; omega
  have di:∀ q∈ps.take kk++ps.drop (kk + 1),q.ok:=fun q hq=>by
   rcases yB.1 hq with hq | hq
   ·exact ok q (List.mem_of_mem_take hq)
   ·exact ok q (List.mem_of_mem_drop hq)
  have dy:q07 ((ps.take kk).map prtC++(ps.drop (kk + 1)).map prtC)=q07 ((ps.take kk++ps.drop (kk + 1)).map prtC):=by rw [yR]
  have zt:(ps.take kk).length=kk:=by rw [yF]; omega
  have jo:(ps.drop (kk + 1)).length=ps.length - (kk + 1):=List.length_drop;have ja:(ps.take kk++ps.drop (kk + 1)).length=kk + (ps.length - (kk + 1)):=by rw [yy,zt,jo]
  generalize hT:ps.take kk=T at *
  generalize hD:ps.drop (kk + 1)=D at *
  generalize gk:q0p xs=R0 at *
  generalize rI:q07 (ps.map prtC)=R2 at *
  by_cases fg:ps.length=kk + 1
  ·have aP:D=[]:=yQ (by omega);subst aP;simp only [List.append_nil] at di;simp [q1c,-y0,-y5,-y4,y3,-q0M,-q0c,q0u,q0z,q0g,q0h,e7,m7,e8,e9,e67,kg,g,wg,eh,ni,bE,jl,iN,az,fg,eF,tg,q1,Cl.okMem,endC];refine hk _ (xs.set z (x,⟨.ref 193 (s.next + 7) 3 0 (kk) (kk),.no⟩)) ⟨?_,?_,?_,?_,?_,?_,nds.upd hz ?_ mc ?_ ?_ ?_ (.inr fun M hM=>?_),?_⟩
   ·simp [e1]
   ·simp [e4]
   ·simp [e5]
   ·simp [e6]
   ·simp [m4]
   ·simp [m5]
   ·simp [bh]
   ·refine .inr ⟨193,s.next + 7,kk,T,by rw [zt],.inr (.inr rfl),by dsimp only; omega,by simp,di,by rw [zt]; omega⟩
   ·exact Pres.set (Pres.set (Pres.kill (Pres.refl _ _ _) rfl) (.inl (by omega))) (.inr (by decide))
   ·dsimp only; omega
   ·simp [nmM] at hM; omega
   ·dsimp only; omega
  ·have h1:kk + 1<=ps.length:=by omega
   simp [q1c,-y0,-y5,-y4,y3,-q0M,-q0c,q0u,q0z,q0g,q0h,e7,m7,e8,e9,e67,kg,g,wg,eh,ni,bE,jl,iN,az,fg,h1,eF,nK,ka,q1,q2,jo,Cl.okMem,endC];refine hk _ (xs.set z (x,⟨.ref 193 (s.next + 7) 3 0 (kk + (ps.length - (kk + 1))) (kk + (ps.length - (kk + 1))),.no⟩)) ⟨?_,?_,?_,?_,?_,?_,nds.upd hz ?_ mc ?_ ?_ ?_ (.inr fun M hM=>?_),?_⟩
   ·simp [e1]
   ·simp [e4]
   ·simp [e5]
   ·simp [e6]
   ·simp [m4]
   ·simp [m5]
   ·simp [bh]
   ·refine .inr ⟨193,s.next + 7,kk + (ps.length - (kk + 1)),T++D,by rw [ja],.inr (.inr rfl),by dsimp only; omega,by rw [<- dy]; simp,di,by rw [ja]; omega⟩
   ·exact Pres.set (Pres.set (Pres.kill (Pres.refl _ _ _) rfl) (.inl (by omega))) (.inr (by decide))
   ·dsimp only; omega
   ·simp [nmM] at hM; omega
   ·dsimp only; omega
theorem sw_ev (hc:c.ok) (h:ChT cn cs L i xs c z x pc ps s) (k:Ex->MSt->Option RV) (hk:∀ s2 sh,ChI cn cs L i sh s2->k .nrm s2=some r):q1c.run (evC allT q01) (evK allT q01) s k=some r:=by
 have h0:=yI c.kind (b:=8) (by omega);have h1:=yP c.kind (b:=8) (by omega);by_cases m0:c.kind % 8=0
 ·exact sw0 hc m0 h k hk
 by_cases m1:c.kind % 8=1
 ·exact sw1 hc m1 h k hk
 by_cases m2:c.kind % 8=2
 ·exact sw2 hc m2 h k hk
 by_cases m3:c.kind % 8=3
 ·exact sw3 hc m3 h k hk
 by_cases m4:c.kind % 8=4
 ·exact sw4 hc m4 h k hk
 by_cases m5:c.kind % 8=5
 ·exact sw5 hc m5 h k hk
 by_cases m6:c.kind % 8=6
 ·exact sw6 hc m6 h k hk
 ·exact sw7 hc (by omega) h k hk
end
end
theorem rowRaw_v {R R':List Slot} (h:R.map (·.v)=R'.map (·.v)) (sz off len:Nat):q4M R sz off len=q4M R' sz off len:=by
 have hl:R.length=R'.length:=by simpa using congrArg List.length h
 unfold q4M;rw [hl];split
 ·congr 1;refine yp fun i _=>?_
  rw [List.map_take,List.map_take,List.map_drop,List.map_drop,h]
 ·rfl
theorem frz_rowV {s:MSt} {t n sz c:Nat} {L:List (List AV)} {R:List Slot} (h:q1a sz L=true) (hm:s.mem t n=some R) (hv:R.map (·.v)=(q07 L).map (·.v)) (hf:(L.map fun c=>c.map (AV.frz1 s)).flatten.all AV.free0=true):AV.frz0 s (.ref t n sz 0 L.length c)=.sl false (L.map fun c=>c.map (AV.frz1 s)):=by
 have hr:q4M R sz 0 L.length=some L:=by
  rw [rowRaw_v hv];exact q2V fun c hc=>by simpa using y7.1 h c hc
 have ff:R.all (fun x=>x.v.free0)=(q07 L).all (fun x=>x.v.free0):=by
  have e:∀ q:List Slot,q.all (fun x=>x.v.free0)=(q.map (·.v)).all AV.free0:=fun q=>by rw [List.all_map]; rfl
  rw [e,e,hv]
 simp only [AV.frz0,hm,y0,rowEls_eq,ff];by_cases ua:(q07 L).all (fun x=>x.v.free0)=true
 ·rw [if_pos ua,hr];have:(L.map fun c=>c.map (AV.frz1 s))=L.map id:=yp fun c hc=>by
   have:c.map (AV.frz1 s)=c.map id:=yp fun v hv=>frz1_free (by
    have:=y7.1 ua ⟨v,.no⟩ (yu.2 ⟨v,List.mem_flatten.2 ⟨c,hc,hv⟩,rfl⟩);exact this)
   rwa [List.map_id] at this
  rw [this,List.map_id]
 ·rw [if_neg ua];simp only [rowDeep,hr,y0];rw [if_pos hf]
def ndC (q:Nd):List AV:=(q6P q).map (·.v)
theorem ndsRow_v:∀ xs:List Nd,(q0p xs).map (·.v)=(q07 (xs.map ndC)).map (·.v)
 | []=>rfl
 | q :: r=>by
  have:=ndsRow_v r;unfold q0p q07 at this ⊢;simp only [List.flatMap_cons,yR,yl,yE];rw [this];simp [ndC]
def Nde.sized (x:Nde):Prop:=x.parts.length * 3<=140737488355328
theorem nd_frz2 {L:Nat} {s:MSt} {xs:List Nd} (h:NdsI L s.mem s.next xs):∀ ys:List Nd,(∀ q∈ys,q∈xs)->∃ l':List Nde,(∀ x∈l',x.ok/\x.sized)/\((ys.map ndC).map fun c=>c.map (AV.frz1 s))=l'.map ndeC
 | [],_=>⟨[],by simp,rfl⟩
 | q :: r,hq=>by
  obtain ⟨l',h1,h2⟩:=nd_frz2 h r fun b hb=>hq b (by simp [hb])
  have hm:=hq q (by simp);have hn:=h.num q hm;have hx:∃ x':Nde,(x'.ok/\x'.sized)/\(ndC q).map (AV.frz1 s)=ndeC x':=by
   rcases h.pc q hm with ⟨nl,ps,a,e,_,h3,h4⟩ | ⟨t,N,c,ps,e,_,_,h3,h4,h5⟩
   ·refine ⟨⟨q.1.k,q.1.a,q.1.b,q.1.c,nl,ps⟩,⟨⟨hn.1,hn.2.1,hn.2.2.1,hn.2.2.2,by dsimp only; omega,h3⟩,by unfold Nde.sized; dsimp only; omega⟩,?_⟩;simp [ndC,q6P,e,AV.frz1,ndeC]
   ·refine ⟨⟨q.1.k,q.1.a,q.1.b,q.1.c,false,ps⟩,⟨⟨hn.1,hn.2.1,hn.2.2.1,hn.2.2.2,by dsimp only; omega,h4⟩,by unfold Nde.sized; dsimp only; omega⟩,?_⟩;have:=q3U (q5x ps) (q8r ps);simp only [yo] at this;simp [ndC,q6P,e,AV.frz1,ndeC,h3,this]
  obtain ⟨x',h3,h4⟩:=hx;refine ⟨x' :: l',?_,?_⟩
  ·intro y hy;rcases yj.1 hy with rfl | hy
   ·exact h3
   ·exact h1 y hy
  ·simp only [yl,h4,h2]
def ChE2 (n:Nat) (e:Ex) (s:MSt):Prop:=e=.ret/\(s.env 4).v=.ptr 4 1 0/\((n=0/\s.mem 4 1=some [⟨.sl false [],.no⟩])\/∃ xs,s.mem 4 1=some [⟨.ref 13 2 5 0 n n,.no⟩]/\NdsI n s.mem s.next xs)
section
variable {dn cn:Bool} {l:List Nde} (hx:∀ x∈l,x.ok/\x.sized) (hl:l.length * 32<=140737488355328) {cs:List Chg} (hc:∀ c∈cs,c.ok) (ad:cs.length<=9223372036854775807)
include dn cn l hx hl cs hc ad
theorem changed_run2 (k:Ex->MSt->Option RV) (r:RV) (hk:∀ e s',ChE2 l.length e s'->k e s'=some r):q2c.code.run (evC allT q01) (evK allT q01) (MSt.init [.agg (dftC dn l),.sl cn (cs.map chgC)] none) k=some r:=by
 have tg:q0Q 32 0=true:=by decide
 by_cases na:l=[]
 ·subst na;simp [q2c,dftC,-y0,-y5,-y4,y3,tg];refine q0b 0 (fun _ s=>(s.env 1).v=.sl cn (cs.map chgC)/\(s.env 4).v=.ptr 4 1 0/\(s.env 5).v=.ptr 5 2 0/\(s.env 6).v=.int .i64 0/\s.mem 4 1=some [⟨.sl true [],.ex⟩]/\s.mem 5 2=some [⟨.sl false [],.no⟩])
   (fun e s=>e=.exit 0/\(s.env 4).v=.ptr 4 1 0/\(s.env 5).v=.ptr 5 2 0/\s.mem 4 1=some [⟨.sl true [],.ex⟩]/\s.mem 5 2=some [⟨.sl false [],.no⟩]) (fun i hi s k h ih hk=>?_) _ _ ?_ (fun e s h=>?_)
  ·obtain ⟨e1,e4,e5,e6,m4,m5⟩:=h;refine q02 ?_;by_cases h0:cs=[]
   ·subst h0;simp at e1;simp [q1d,-y0,-y5,-y4,y3,e1,e5,e6,m5];exact hk _ _ ⟨rfl,by simp [e4],by simp [e5],m4,m5⟩
   ·have h1:(0:Int)<cs.length:=by have:=List.length_pos_iff.2 h0; omega
    have h2:=List.length_pos_iff.2 h0;simp [q1d,-y0,-y5,-y4,y3,e1,e5,e6,m5,h1,h2];exact hk _ _ ⟨rfl,by simp [e4],by simp [e5],m4,m5⟩
  ·refine ⟨?_,?_,?_,?_,?_,?_⟩ <;> simp
  ·obtain ⟨rfl,e4,e5,m4,m5⟩:=h;simp [-y0,-y5,-y4,y3,e4,e5,m4,m5];exact hk _ _ ⟨rfl,by simp [e4],.inl ⟨by simp,by simp⟩⟩
 ·have eh:=List.length_pos_iff.2 na;have ni:(0:Int)<l.length:=by omega
  have rg:l.isEmpty=false:=by simpa using na
  have ka:q0Q 32 l.length=true:=by rw [q0l]; omega
  have ge:q1a 5 (l.map ndeC)=true:=q1h _ _ _ fun _=>rfl
  simp [q2c,dftC,-y0,-y5,-y4,y3,ka,ge,rg,na];refine q0b cs.length (fun i s=>∃ xs,ChI cn cs l.length i xs s)
   (fun e s=>e=.exit 0/\∃ xs,ChI cn cs l.length cs.length xs s) (fun i hi s k h ih hk=>?_) _ _ ?_ (fun e s h=>?_)
  ·obtain ⟨xs,h⟩:=h;by_cases da:i<cs.length
   ·refine chg_head da ad hc eh (by omega) h k (fun s' ij c z x pc ps kk ft hT ub=>sw_ev (hc c ft) hT kk ub) (fun s' ij h'=>ih da s' ⟨ij,h'⟩)
   ·have bi:i=cs.length:=by omega
    have fa:¬ (i:Int)<cs.length:=by omega
    refine q02 ?_;have e1:=h.e1;have e6:=h.e6;simp [q1d,-y0,-y5,-y4,y3,e1,e6,fa];rw [<- bi];refine hk _ _ ⟨rfl,xs,?_⟩;rw [<- bi];exact h.nothing (by simp) (by simp) (by simp) (by simp) (by omega)
  ·refine ⟨l.map fun x=>(x,⟨.sl x.pn (x.parts.map prtC),.no⟩),⟨?_,?_,?_,?_,?_,?_,⟨by simp,?_,?_,?_,?_⟩,?_⟩⟩
   ·simp
   ·simp
   ·simp
   ·simp
   ·simp
   ·simp
   ·have:q07 (l.map ndeC)=q0p (l.map fun x=>(x,⟨.sl x.pn (x.parts.map prtC),.no⟩)):=by
     unfold q07 q0p;rw [List.map_flatten,y4,List.flatMap_map];rfl
    simp [this]
   ·intro q hq;obtain ⟨x,nw,rfl⟩:=yu.1 hq;have:=(hx x nw).1;exact ⟨this.1,this.2.1,this.2.2.1,this.2.2.2.1⟩
   ·intro q hq;obtain ⟨x,nw,rfl⟩:=yu.1 hq;exact .inl ⟨x.pn,x.parts,.no,rfl,.inl rfl,(hx x nw).1.2.2.2.2.2,(hx x nw).2⟩
   ·intro j k a b N _ ha _ xz _;rw [yc] at ha;obtain ⟨x,_,rfl⟩:=yh.1 ha;simp [nmM] at xz
   ·simp
  ·obtain ⟨rfl,xs,e1,e4,e5,e6,m4,m5,nds,nx⟩:=h;simp [-y0,-y5,-y4,y3,e4,e5,m4,m5];refine hk _ _ ⟨rfl,by simp [e4],.inr ⟨xs,by simp,?_⟩⟩;exact ⟨nds.len,by simp [nds.row],nds.num,fun q hq=>(nds.pc q hq).pres (ex:=none) (Pres.set (Pres.refl _ _ _) (.inr (by decide))) (by dsimp only; omega) (by simp),nds.dist⟩
theorem changed_ev2:∃ r:RV,(∃ l':List Nde,(∀ x∈l',x.ok/\x.sized)/\l'.length=l.length/\r=(.agg (dftC false l'),none))/\evC allT q01 69 [.agg (dftC dn l),.sl cn (cs.map chgC)] none=some r:=by
 refine evC_reach allT_det q2c rfl rfl (F:=ChE2 l.length) (changed_run2 hx hl hc ad) fun e s' h=>?_
 have od:q2c.res=[.cell 4 true 1]:=rfl;obtain ⟨rfl,e4,⟨eg,m4⟩ | ⟨xs,m4,nds⟩⟩:=h
 ·exact ⟨_,by simp [fin,od,resC,e4,m4,q0M,AV.frz,AV.frz0,finV,AV.free,AV.free0,pack]; rfl,[],by simp,by simp [eg],rfl⟩
 ·obtain ⟨l',h1,h2⟩:=nd_frz2 nds xs fun q hq=>hq
  have ge:q1a 5 (xs.map ndC)=true:=q1h _ _ _ fun _=>rfl
  have g2:=frz_rowV (c:=l.length) ge nds.row (ndsRow_v xs) (by rw [h2]; simp [ndeC,AV.free0]);rw [yo,nds.len,h2] at g2;have f1:AV.frz s' (.agg [.ref 13 2 5 0 l.length l.length])=.agg [.sl false (l'.map ndeC)]:=by simp only [AV.frz,yl,yr,g2]
  exact ⟨_,by simp [fin,od,resC,e4,m4,q0M,f1,finV,AV.free,AV.free0,pack,-AV.frz,-AV.frz0]; rfl,l',h1,by have:=congrArg List.length h2; simp only [yo] at this; rw [<- this,nds.len],rfl⟩
theorem changed_ev:∃ r:RV,(∃ l':List Nde,(∀ x∈l',x.ok)/\r=(.agg (dftC false l'),none))/\evC allT q01 69 [.agg (dftC dn l),.sl cn (cs.map chgC)] none=some r:=by
 obtain ⟨r,⟨l',h1,_,h2⟩,h3⟩:=changed_ev2 (dn:=dn) (cn:=cn) hx hl hc ad;exact ⟨r,⟨l',fun x hx=>(h1 x hx).1,h2⟩,h3⟩
end
end Go.Proofs.YtbnlmgncbgaepaaGreat
