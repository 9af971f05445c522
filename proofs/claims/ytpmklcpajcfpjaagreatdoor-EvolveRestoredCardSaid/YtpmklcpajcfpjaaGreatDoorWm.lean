/- A part of the proof. -/
import Derived.Test.YtpmklcpajcfpjaaGreatDoorWk
import Derived.Test.YtpmklcpajcfpjaaGreatDoorWl
set_option linter.all false
set_option maxRecDepth 100000
set_option maxHeartbeats 8000000
open Option renaming bind_some → J, map_eq_some_iff → yq, map_some → yB
open List renaming range_succ → y0, map_map → y9, length_map → yc, all_eq_true → ye, getElem?_eq_getElem → yf, length_append → yj, getElem?_map → yk, map_cons → ym, getElem?_eq_some_iff → yn, mem_of_getElem? → yr, mem_cons → yt, mem_append → yu, drop_eq_getElem_cons → yv, length_take → yz, flatten_cons → yA, getElem_mem → yC, mem_map → yD, map_congr_left → yE, append_nil → yF, length_cons → yG, getElem?_drop → yI, length_drop → yJ, getElem?_take → yK, getElem?_append_right → yP, map_nil → yQ, getElem?_append_left → yT, map_take → yW, map_drop → Y01, map_append → Y03, eq_nil_of_length_eq_zero → Y04, getElem?_eq_none → Y08, flatMap_cons → Y0a, take_of_length_le → Y0b, take_append_drop → Y0c, mem_of_mem_take → Y0i, getElem_of_mem → Y0k, getElem?_set_self → Y0n
open Int renaming toNat_lt → yb, tmod_eq_emod_of_nonneg → yO, emod_lt_of_pos → Y0h
open Nat renaming le_refl → yl, zero_add → yy, add_mul → yL, mul_le_mul_right → Y0e, add_sub_cancel_left → Y0g
namespace Go.Proofs.YtpmklcpajcfpjaaGreatDoor
open Go
def FE:C:=.block 2 (oR [oS 93 (.bin .eql false (.t 67) (.c (.int .u8 0))),oM 92 93] (oD 92 (.reg [oM 94 8,oM 95 8,oK 96 95,oF 97 1 96,oL 98 97,oF 99 2 7,oLr 100 7 1 99,oS 101 (.bin .rem false (.t 100) (.c (.int .u8 5))),oB 102 .add 98 101,oS 103 (.bin .sub false (.t 102) (.c (.int .u8 2))),oK 104 94,oF 105 1 104,oW 105 103]) (oR [oS 107 (.bin .eql false (.t 67) (.c (.int .u8 1))),oM 106 107] (oD 106 (.reg [oM 108 8,oM 109 8,oK 110 109,oF 111 2 110,oL 112 111,oF 113 3 7,oLr 114 7 1 113,oS 115 (.bin .rem false (.t 114) (.c (.int .u8 5))),oB 116 .add 112 115,oS 117 (.bin .sub false (.t 116) (.c (.int .u8 2))),oK 118 108,oF 119 2 118,oW 119 117]) (oR [oS 121 (.bin .eql false (.t 67) (.c (.int .u8 2))),oM 120 121] (oD 120 (.reg [oM 122 8,oM 123 8,oK 124 123,oF 125 1 124,oL 126 125,oF 127 2 7,oLr 128 7 1 127,oS 129 (.bin .rem false (.t 128) (.c (.int .u8 6))),oS 130 (.bin .shl false (.c (.int .u8 1)) (.t 129)),oB 131 .xor 126 130,oK 132 122,oF 133 1 132,oW 133 131]) (oR [oS 135 (.bin .eql false (.t 67) (.c (.int .u8 3))),oM 134 135] (oD 134 (.reg [oM 136 8,oM 137 8,oK 138 137,oF 139 3 138,oL 140 139,oF 141 2 7,oLr 142 7 1 141,oB 143 .add 140 142,oK 144 136,oF 145 3 144,oW 145 143]) (oR [oS 147 (.bin .eql false (.t 67) (.c (.int .u8 4))),oM 146 147] (oD 146 (oR [oM 148 8,oK 149 148,oF 150 4 149,oL 151 150,oH 152 151,oC 153 .lss 152 8] (oD 153 (.reg [oM 154 8,oM 155 8,oK 156 155,oF 157 4 156,oL 158 157,oF 159 2 7,oLr 160 7 1 159,oF 161 3 7,oLr 162 7 1 161,oF 163 2 7,oLr 164 7 1 163,oS 165 (.bin .quo false (.t 164) (.c (.int .u8 12))),oS 166 (.build zzh [(0,(1,(.t 160))),(1,(1,(.t 162))),(2,(1,(.t 165)))]),oS 167 (.IA zzh 1 [(0,(.t 166))]),oS 168 (.RA .any 89 3 3 (.t 158) (.t 167)),oK 169 154,oF 170 4 169,oW 170 168]) .skip)) (oR [oS 172 (.bin .eql false (.t 67) (.c (.int .u8 5))),oM 171 172] (oD 171 (oR [oM 173 8,oK 174 173,oF 175 4 174,oL 176 175,oH 177 176,oC 178 .gtr 177 0] (oD 178 (.reg [oM 179 8,oM 180 8,oK 181 180,oF 182 4 181,oL 183 182,oM 184 9,oS 185 (.nC false 3 (.t 183) .none (.some (.t 184)) .none),oM 186 8,oK 187 186,oF 188 4 187,oL 189 188,oM 190 9,oC 191 .add 190 1,oS 192 (.nC false 3 (.t 189) (.some (.t 191)) .none .none),oS 193 (.RA .any 89 3 3 (.t 185) (.t 192)),oK 194 179,oF 195 4 194,oW 195 193]) .skip)) (oR [oS 197 (.bin .eql false (.t 67) (.c (.int .u8 6))),oM 196 197] (oD 196 (oR [oM 198 8,oK 199 198,oF 200 4 199,oL 201 200,oH 202 201,oC 203 .gtr 202 0] (oD 203 (.reg [oM 204 8,oK 205 204,oF 206 4 205,oL 207 206,oM 208 9,oF 209 3 7,oLr 210 7 1 209,oI 211 3 207 208,oF 212 2 211,oW 212 210]) .skip)) (oR [oM 68 8,oK 69 68,oF 70 4 69,oL 71 70,oH 72 71,oC 73 .gtr 72 0] (oD 73 (.reg [oM 74 8,oK 75 74,oF 76 4 75,oL 77 76,oM 78 9,oM 79 8,oK 80 79,oF 81 4 80,oL 82 81,oM 83 9,oI 84 3 82 83,oF 85 1 84,oL 86 85,oF 87 3 7,oLr 88 7 1 87,oB 89 .add 86 88,oI 90 3 77 78,oF 91 1 90,oW 91 89]) .skip))))))))))))))))
theorem chg_L1:jF=.seq (.seq (.reg [⟨(.some 15),(.mv (.t 6)),.none⟩,⟨(.some 16),(.mv (.t 1)),.none⟩,⟨(.some 17),(.len .false (.t 16)),.none⟩,⟨(.some 18),(.bin .lss .false (.t 15) (.t 17)),.none⟩,⟨(.some 19),(.mv (.t 18)),.none⟩,⟨(.some 20),(.PA 0 (.t 5)),(.some (19,.true))⟩,⟨(.some 21),(.load .any .false 1 (.t 20)),(.some (19,.true))⟩,⟨(.some 22),(.len .false (.t 21)),(.some (19,.true))⟩,⟨(.some 23),(.bin .gtr .false (.t 22) (.c (.int .i64 0))),(.some (19,.true))⟩,⟨(.some 24),(.pick (.t 19) (.t 23) (.c (.bool .false))),.none⟩]) (.cond (.t 24) .skip (.exit 0))) (.seq (.block 1 (.seq (.reg [⟨(.some 27),(.mv (.t 1)),.none⟩,⟨(.some 28),(.mv (.t 6)),.none⟩,⟨(.some 29),(.aB 4 (.t 27) (.t 28)),.none⟩,⟨(.some 30),(.load .any .true 4 (.t 29)),.none⟩,⟨(.some 7),(.alloc [(.int .u8 0),(.int .u8 0),(.int .u8 0),(.int .u8 0)]),.none⟩,⟨.none,(.store .any .true 4 (.t 7) (.t 30)),.none⟩]) (.seq (.reg [⟨(.some 31),(.PA 0 (.t 5)),.none⟩,⟨(.some 32),(.load (.root 5) .false 1 (.t 31)),.none⟩,⟨(.some 33),(.PA 1 (.t 7)),.none⟩,⟨(.some 34),(.load (.root 7) .false 1 (.t 33)),.none⟩,⟨(.some 35),(.conv (.some .i64) (.t 34)),.none⟩,⟨(.some 36),(.PA 0 (.t 5)),.none⟩,⟨(.some 37),(.load (.root 5) .false 1 (.t 36)),.none⟩,⟨(.some 38),(.len .false (.t 37)),.none⟩,⟨(.some 39),(.bin .rem .false (.t 35) (.t 38)),.none⟩,⟨(.some 40),(.aB 5 (.t 32) (.t 39)),.none⟩,⟨(.some 8),(.mv (.t 40)),.none⟩]) (.seq (.reg [⟨(.some 41),(.mv (.t 8)),.none⟩,⟨(.some 42),(.IA [(.int .u8 0),(.int .u8 0),(.int .u8 0)] 0 []),.none⟩,⟨(.some 43),(.mv (.t 8)),.none⟩,⟨(.some 44),(.WA (.t 43)),.none⟩,⟨(.some 45),(.PA 4 (.t 44)),.none⟩,⟨(.some 46),(.load .any .false 1 (.t 45)),.none⟩,⟨(.some 47),(.dB .any 89 3 3 (.t 42) (.t 46)),.none⟩,⟨(.some 48),(.WA (.t 41)),.none⟩,⟨(.some 49),(.PA 4 (.t 48)),.none⟩,⟨.none,(.store .any .false 1 (.t 49) (.t 47)),.none⟩]) (.seq (.reg [⟨(.some 9),(.mv (.c (.int .i64 0))),.none⟩]) (.seq (.seq (.reg [⟨(.some 50),(.mv (.t 8)),.none⟩,⟨(.some 51),(.WA (.t 50)),.none⟩,⟨(.some 52),(.PA 4 (.t 51)),.none⟩,⟨(.some 53),(.load .any .false 1 (.t 52)),.none⟩,⟨(.some 54),(.len .false (.t 53)),.none⟩,⟨(.some 55),(.bin .gtr .false (.t 54) (.c (.int .i64 0))),.none⟩]) (.cond (.t 55) (.reg [⟨(.some 56),(.PA 2 (.t 7)),.none⟩,⟨(.some 57),(.load (.root 7) .false 1 (.t 56)),.none⟩,⟨(.some 58),(.conv (.some .i64) (.t 57)),.none⟩,⟨(.some 59),(.mv (.t 8)),.none⟩,⟨(.some 60),(.WA (.t 59)),.none⟩,⟨(.some 61),(.PA 4 (.t 60)),.none⟩,⟨(.some 62),(.load .any .false 1 (.t 61)),.none⟩,⟨(.some 63),(.len .false (.t 62)),.none⟩,⟨(.some 64),(.bin .rem .false (.t 58) (.t 63)),.none⟩,⟨(.some 9),(.mv (.t 64)),.none⟩]) .skip)) (.seq (.reg [⟨(.some 65),(.PA 0 (.t 7)),.none⟩,⟨(.some 66),(.load .any .false 1 (.t 65)),.none⟩,⟨(.some 67),(.bin .rem .false (.t 66) (.c (.int .u8 8))),.none⟩]) FE))))))) (.reg [⟨(.some 25),(.mv (.t 6)),.none⟩,⟨(.some 26),(.bin .add .false (.t 25) (.c (.int .i64 1))),.none⟩,⟨(.some 6),(.mv (.t 26)),.none⟩])):=rfl
structure D2 where
 kind:Int
 node:Int
 a:Int
 b:Int
def pO (c:D2):List AV:=[.int .u8 c.kind,.int .u8 c.node,.int .u8 c.a,.int .u8 c.b]
def D2.ok (c:D2):Prop:=u8 c.kind/\u8 c.node/\u8 c.a/\u8 c.b
def ML (c:D2):List SC:=[⟨.int .u8 c.kind,.no⟩,⟨.int .u8 c.node,.no⟩,⟨.int .u8 c.a,.no⟩,⟨.int .u8 c.b,.no⟩]
abbrev Nd:=OF×SC
def kK (q:Nd):List SC:=[⟨.int .u8 q.1.k,.no⟩,⟨.int .u8 q.1.a,.no⟩,⟨.int .u8 q.1.b,.no⟩,⟨.int .u8 q.1.c,.no⟩,q.2]
def zD (xs:List Nd):List SC:=xs.flatMap kK
theorem bU:∀xs:List Nd,(zD xs).length=xs.length*5
 | []=>rfl
 |q::r=>by
  have:=bU r;unfold zD at this ⊢;rw[Y0a,yj,this,yG];simp[kK];omega
section
variable {xs:List Nd} {z:Nat}
include xs z
theorem KQ {q:Nd}(h:xs[z]?=some q):zD xs=zD (xs.take z)++(kK q++zD (xs.drop (z+1)))/\(zD (xs.take z)).length=z*5:=by
 obtain⟨hz,rfl⟩:=yn.1 h;refine⟨?_,by rw[bU,yz];omega⟩;have e:xs=xs.take z++(xs[z]::xs.drop (z+1)):=by rw[<- yv hz,Y0c]
 refine(congrArg zD e).trans ?_;unfold zD;rw[List.flatMap_append,Y0a]
theorem OH {q:Nd}(h:xs[z]?=some q)(o:Nat)(ho:o<5):(zD xs)[z*5+o]?=(kK q)[o]?:=by
 obtain⟨h1,h2⟩:=KQ h;rw[h1,yP (by omega),h2,Y0g,yT (by simp[kK];omega)]
theorem Ww {q q':Nd}(h:xs[z]?=some q)(o:Nat)(ho:o<5)(y:SC)(hq:(kK q).set o y=kK q'):(zD xs).set (z*5+o) y=zD (xs.set z q'):=by
 obtain⟨h1,h2⟩:=KQ h;have hz:=(yn.1 h).1;have h':(xs.set z q')[z]?=some q':=Y0n hz;obtain⟨g1,g2⟩:=KQ h';rw[h1,g1,List.set_append_right _ _ (by omega),h2,Y0g,List.set_append_left _ _ (by simp[kK];omega),hq];rw[List.take_set_of_le (yl z),List.drop_set_of_lt (Nat.lt_succ_self z)]
theorem aH {q q':Nd}(h:xs[z]?=some q)(o:Nat)(ho:o<5)(v:AV)(a:An)(hv:v.leaf=true)(hq:(kK q).set o ⟨v,a⟩=kK q'):KC false 1 (z*5+o) (zD xs) v a=some (zD (xs.set z q')):=by
 have hz:=(yn.1 h).1;have hl:=bU xs;simp only[KC,hv];rw[<- Ww h o ho _ hq];simp;omega
end
def NY (x:SC):Option Nat:=match x.v with
 |.ref _ M _ _ _ _=>some M
 |_=>none
def Wb (M:Nat->Nat->Option (List SC))(n:Nat)(x:SC):Prop :=
 (∃(nl:Bool)(ps:List MR)(a:An),x=⟨.sl nl (ps.map IG),a⟩/\(a=.no\/a=.ex)/\(∀p∈ps,p.ok)/\ps.length*3<=140737488355328) ∨
 ∃(t N c:Nat)(ps:List MR),x=⟨.ref t N 3 0 ps.length c,.no⟩/\(t=47\/t=168\/t=193)/\N<n/\M t N=some (qD (ps.map IG))/\(∀p∈ps,p.ok)/\ps.length*3<=140737488355328
def PF (n:Nat)(ex:Option Nat)(M M':Nat->Nat->Option (List SC)):Prop:=∀(t N:Nat)(ps:List MR),(t=47\/t=168\/t=193)->N<n->some N≠ex->M t N=some (qD (ps.map IG))->M' t N=some (qD (ps.map IG))
theorem PF.refl (n:Nat)(ex:Option Nat)(M:Nat->Nat->Option (List SC)):PF n ex M M:=fun _ _ _ _ _ _ h=>h
theorem PF.set {n:Nat}{ex:Option Nat}{M M':Nat->Nat->Option (List SC)}(h:PF n ex M M'){t' n':Nat}{r:List SC}(hn:n<=n'\/¬(t'=47\/t'=168\/t'=193)):PF n ex M (DN M' t' n' r):=fun t N ps ht hN hx hm=>by
 rw[CC,if_neg]
 ·exact h t N ps ht hN hx hm
 ·rintro ⟨rfl,rfl⟩;rcases hn with hn | hn
  ·omega
  ·exact hn ht
theorem nQ (ps:List MR):ND (ps.map IG)=true:=BH IG ps fun p=>by simp[IG,AV.tA]
theorem RK (ps:List MR):kD 3 (ps.map IG)=true:=nF _ _ _ fun _=>rfl
theorem PF.kill {n:Nat}{ex:Option Nat}{M M':Nat->Nat->Option (List SC)}(h:PF n ex M M'){t' n':Nat}(hn:ex=some n'):PF n ex M (FV t' n' M'):=fun t N ps ht hN hx hm=>by
 rw[UD,if_neg,h t N ps ht hN hx hm]
 ·simp only[yB,D1 (nQ ps)]
 ·rintro⟨rfl,rfl⟩;exact hx hn.symm
theorem Wb.gC {M M':Nat->Nat->Option (List SC)}{n n':Nat}{x:SC}(h:Wb M n x){ex:Option Nat}(hp:PF n ex M M')(hn:n<=n')(hx:∀N,NY x=some N->some N≠ex):Wb M' n' x:=by
 rcases h with h|⟨t,N,c,ps,rfl,h1,h2,h3,h4,h5⟩
 ·exact .inl h
 ·exact .inr ⟨t,N,c,ps,rfl,h1,by omega,hp t N ps h1 h2 (hx N rfl) h3,h4,h5⟩
structure w7 (L:Nat)(M:Nat->Nat->Option (List SC))(n:Nat)(xs:List Nd):Prop where
 len:xs.length=L
 row:M 13 2=some (zD xs)
 num:∀q∈xs,u8 q.1.k/\u8 q.1.a/\u8 q.1.b/\u8 q.1.c
 pc:∀q∈xs,Wb M n q.2
 dist:∀(j k:Nat)(a b:Nd)(N:Nat),j≠k->xs[j]?=some a->xs[k]?=some b->NY a.2=some N->NY b.2=some N->False
theorem w7.upd {L:Nat}{M M':Nat->Nat->Option (List SC)}{n n':Nat}{xs:List Nd}(h:w7 L M n xs){z:Nat}{q q':Nd}(hz:xs[z]?=some q)(ja:M' 13 2=some (zD (xs.set z q')))(zd:u8 q'.1.k/\u8 q'.1.a/\u8 q'.1.b/\u8 q'.1.c)(ph:Wb M' n' q'.2)(hp:PF n (NY q.2) M M')(hn:n<=n')(fd:NY q'.2=NY q.2\/∀N,NY q'.2=some N->n<=N):w7 L M' n' (xs.set z q'):=by
 have lr:=(yn.1 hz).1;have hother:∀(k:Nat)(b:Nd),k≠z->xs[k]?=some b->Wb M' n' b.2:=fun k b hk hb=>(h.pc b (yr hb)).gC hp hn fun N hN e=>h.dist k z b q N hk hb hz hN e.symm
 have dl:∀(k:Nat)(b:Nd),(xs.set z q')[k]?=some b->(k=z/\b=q')\/(k≠z/\xs[k]?=some b):=fun k b hb=>by
  rw[List.getElem?_set]at hb;by_cases e:z=k
  ·rw[if_pos e,if_pos lr]at hb;injection hb with hb;exact .inl ⟨e.symm,hb.symm⟩
  ·rw[if_neg e]at hb;exact .inr ⟨fun h=>e h.symm,hb⟩
 have ni:∀(b:Nd)(N:Nat),b∈xs->NY b.2=some N->N<n:=fun b N hb hN=>by
  rcases h.pc b hb with⟨nl,ps,a,e,_⟩|⟨t,N',c,ps,e,_,h2,_⟩
  ·rw[e]at hN;simp[NY]at hN
  ·rw[e]at hN;simp[NY]at hN;omega
 refine⟨by simp[h.len],ja,fun b hb=>?_,fun b hb=>?_,fun j k a b N hjk ha hb hNa hNb=>?_⟩
 ·obtain ⟨k,hk,rfl⟩:=Y0k hb;rcases dl k _ (yf hk) with ⟨_,e⟩ | ⟨_,e⟩
  ·rw[e];exact zd
  ·exact h.num _ (yr e)
 ·obtain ⟨k,hk,rfl⟩:=Y0k hb;rcases dl k _ (yf hk) with ⟨_,e⟩ | ⟨sf,e⟩
  ·rw[e];exact ph
  ·exact hother k _ sf e
 ·rcases dl j a ha with ⟨hj,rfl⟩ | ⟨hj,px⟩
  ·rcases dl k b hb with ⟨hk,rfl⟩ | ⟨hk,db⟩
   ·omega
   ·rcases fd with e | e
    ·exact h.dist z k q b N (by omega) hz db (by rw[<- e];exact hNa) hNb
    ·have:=e N hNa;have:=ni b N (yr db) hNb;omega
  ·rcases dl k b hb with ⟨hk,rfl⟩ | ⟨hk,db⟩
   ·rcases fd with e | e
    ·exact h.dist j z a q N (by omega) px hz hNa (by rw[<- e];exact hNb)
    ·have:=e N hNb;have:=ni a N (yr px) hNa;omega
   ·exact h.dist j k a b N hjk px db hNa hNb
theorem kY {L:Nat}{M:Nat->Nat->Option (List SC)}{n:Nat}{xs:List Nd}(h:w7 L M n xs){z:Nat}{q:Nd}(hz:xs[z]?=some q){t N:Nat}(hN:NY q.2=some N):(zD xs).map (SC.kill t N)=zD (xs.set z (q.1,q.2.kill t N)):=by
 have lr:=(yn.1 hz).1;have e1:xs.map (fun b:Nd=>((b.1,b.2.kill t N):Nd))=xs.set z (q.1,q.2.kill t N):=by
  refine List.ext_getElem? fun k=>?_
  rw[yk,List.getElem?_set];by_cases e:z=k
  ·subst e;rw[if_pos rfl,if_pos lr,hz];rfl
  ·rw [if_neg e];cases hk:xs[k]? with
   |none=>rfl
   |some b =>
    have hb:b.2.kill t N=b.2:=by
     rcases h.pc b (yr hk)with⟨nl,ps,a,e',_⟩|⟨t',N',c,ps,e',_⟩
     ·rw[e'];show(⟨AV.kill t N (.sl nl (ps.map IG)),a⟩:SC)=_;rfl
     ·have ua:N'≠N:=fun e2=>h.dist k z b q N (fun e3=>e e3.symm) hk hz (by rw [e',e2]; rfl) hN
      rw[e'];simp[SC.iA,AV.kill,AV.rA,ua]
    simp only[yB,hb]
 rw[<- e1];unfold zD;rw[List.map_flatMap,List.flatMap_map];congr 1
structure F3 (cn:Bool)(cs:List D2)(L i:Nat)(xs:List Nd)(s:LC):Prop where
 e1:(s.env 1).v=.sl cn (cs.map pO)
 e4:(s.env 4).v=.ptr 4 1 0
 e5:(s.env 5).v=.ptr 5 2 0
 e6:(s.env 6).v=.int .i64 i
 m4:s.mem 4 1=some [⟨.sl true [],.ex⟩]
 m5:s.mem 5 2=some [⟨.ref 13 2 5 0 L L,.no⟩]
 DA:w7 L s.mem s.next xs
 nx:2<s.next
def OwnP (s:LC)(ps:List MR)(pc:SC):Prop:=(ps=[]/\pc=⟨.sl false [],.ex⟩)\/(ps≠[]/\∃N,pc=⟨.ref 47 N 3 0 ps.length ps.length,.no⟩/\N<s.next/\s.mem 47 N=some (qD (ps.map IG)))
structure Cf (cn:Bool)(cs:List D2)(L i:Nat)(xs:List Nd)(c:D2)(z:Nat)(x:OF)(pc:SC)(ps:List MR)(s:LC):Prop where
 ch:F3 cn cs L i xs s
 e7:∃n7,(s.env 7).v=.ptr 7 n7 0/\s.mem 7 n7=some (ML c)
 e8:(s.env 8).v=.ptr 13 2 (z*5)
 e9:∃kk:Nat,(s.env 9).v=.int .i64 kk/\(ps≠[]->kk<ps.length)
 UB:(s.env 67).v=.int .u8 (c.kind%8)
 hz:xs[z]?=some (x,pc)
 kC:OwnP s ps pc
 ok:∀p∈ps,p.ok
 sz:ps.length*3<=140737488355328
theorem Lh {r:RV}{cn:Bool}{cs:List D2}{L i:Nat}(hi:i<cs.length)(ge:cs.length<=9223372036854775807)(wa:∀c∈cs,c.ok)(uz:0<L)(rq:L<=140737488355328){xs:List Nd}{s:LC}(h:F3 cn cs L i xs s)(k:Ex->LC->Option RV)
  (hk:∀s' pk c z x pc ps (kk:Ex->LC->Option RV),c∈cs->Cf cn cs L i pk c z x pc ps s'->(∀s2 kj,F3 cn cs L i kj s2->kk .nrm s2=some r)->FE.run (sF MC ZC) (jH MC ZC) s' kk=some r)
  (ih:∀s' pk,F3 cn cs L (i+1) pk s'->HJ MC ZC jF s' k=some r):HJ MC ZC jF s k=some r:=by
 obtain⟨e1,e4,e5,e6,m4,m5,DA,nx⟩:=h;refine wD ?_;have fa:(i:Int)<cs.length:=by omega
 have g1:(cs.map pO)[i]?=some (pO cs[i]):=by simp[hi]
 have aq:=rE (i:=i);have wk:=yC hi;have hco:=wa _ wk;generalize cs[i]=c at *
 obtain⟨⟨k1,k2⟩,⟨n1,n2⟩,⟨a1,a2⟩,b1,b2⟩:=hco;simp only[pO]at g1;have gu:IntKind.i64.wrap c.node=c.node:=IntWalk.i64_in _ (by omega);have hwa:IntKind.i64.wrap c.a=c.a:=IntWalk.i64_in _ (by omega);have hm:c.node.tmod L=c.node%L:=yO (by omega);have fc:=Int.emod_nonneg c.node (b:=(L:Int)) (by omega);have ze:=Y0h c.node (b:=(L:Int)) (by omega);have h8:c.kind.tmod 8=c.kind%8:=yO (by omega);have hLi:(0:Int)<L:=by omega
 have sj:¬L=0:=by omega
 generalize c.node%(L:Int)=zz at *
 have lr:zz.toNat<xs.length:=by rw[DA.len];omega
 obtain⟨q,hq⟩:∃q,xs[zz.toNat]?=some q:=⟨_,yf lr⟩;obtain⟨x,pc⟩:=q;have zd:=DA.num _ (yr hq);have g46:(zD xs)[zz.toNat*5+4]?=some pc:=OH hq 4 (by omega);have cont:∀(s2:LC)(kj:List Nd)(E:Nat->SC),F3 cn cs L i kj s2->s2.env=E->F3 cn cs L (i+1) kj ⟨Od (Od (Od E 25 ⟨.int .i64 i,(E 6).a⟩) 26 ⟨.int .i64 ((i+1:Nat):Int),.no⟩) 6 ⟨.int .i64 ((i+1:Nat):Int),.no⟩,s2.mem,s2.next+1,s2.obj,s2.gh⟩:=fun s2 kj E h he=>by
  subst he;obtain⟨e1,e4,e5,e6,m4,m5,DA,nx⟩:=h;exact⟨by simp[e1],by simp[e4],by simp[e5],by simp,m4,m5,⟨DA.len,DA.row,DA.num,fun q hq=>(DA.pc q hq).gC (ex:=none) (PF.refl _ _ _) (by dsimp only;omega) (by simp),DA.dist⟩,by dsimp only;omega⟩
 have JJ:∀(s':LC)(pk:List Nd)(pc':SC)(ps:List MR),Cf cn cs L i pk c zz.toNat x pc' ps s'->FE.run (sF MC ZC) (jH MC ZC) s' (Ih 1 (Xc (sF MC ZC) (jH MC ZC) (.reg [⟨some 25,.mv (.t 6),none⟩,⟨some 26,.bin .add false (.t 25) (.c (.int .i64 1)),none⟩,⟨some 6,.mv (.t 26),none⟩]) (aN (HJ MC ZC) jF k)))=some r:=fun s' pk pc' ps hT=>by
  refine hk s' pk c _ x pc' ps _ wk hT (fun s2 kj h2=>?_);have e6:=h2.e6;simp[-J,-yb,-y9,y0,e6,aq];exact ih _ _ (cont s2 kj _ h2 rfl)
 rw[chg_L1];have ph:=DA.pc _ (yr hq);have aj:∃ps:List MR,(∀p∈ps,p.ok)/\ps.length*3<=140737488355328/\((∃nl a,pc=⟨.sl nl (ps.map IG),a⟩)\/∃t N c0,pc=⟨.ref t N 3 0 ps.length c0,.no⟩/\(t=47\/t=168\/t=193)/\N<s.next/\s.mem t N=some (qD (ps.map IG))):=by
  rcases ph with⟨nl,ps,a,h1,_,h3,h4⟩|⟨t,N,c0,ps,h1,h2,h3,h4,h5,h6⟩
  ·exact⟨ps,h3,h4,.inl ⟨nl,a,h1⟩⟩
  ·exact⟨ps,h5,h6,.inr ⟨t,N,c0,h1,h2,h3,h4⟩⟩
 obtain⟨ps,ju,hps,ff⟩:=aj;have ii:=DA.row;have tz:=aH (q':=(x,⟨.sl false [],.ex⟩)) hq 4 (by omega) (.sl false []) .ex rfl rfl;have lg:∀n,KC false 1 (zz.toNat*5+4) (zD xs) (.ref 47 n 3 0 ps.length ps.length) .no=some (zD (xs.set zz.toNat (x,⟨.ref 47 n 3 0 ps.length ps.length,.no⟩))):=fun n=>aH hq 4 (by omega) _ .no rfl rfl
 have hgz:∀y,(xs.set zz.toNat (x,y))[zz.toNat]?=some (x,y):=fun y=>Y0n lr
 have lq:=OH (hgz ⟨.sl false [],.ex⟩) 4 (by omega);have hg1:∀n,(zD (xs.set zz.toNat (x,⟨.ref 47 n 3 0 ps.length ps.length,.no⟩)))[zz.toNat*5+4]?=some ⟨.ref 47 n 3 0 ps.length ps.length,.no⟩:=fun n=>OH (hgz _) 4 (by omega)
 have hg0':(zD (xs.set zz.toNat (x,⟨.sl false [],.ex⟩)))[zz.toNat*5+4]?=some ⟨.sl false [],.ex⟩:=lq;clear lq;have ga:pD 3 ps.length=true:=by rw[XC];omega
 have ui:pD 3 0=true:=by decide
 have ao:KG (qD (ps.map IG)) 3 0 ps.length=some (ps.map IG):=by
  have:=AE (RK ps) (nQ ps);simpa using this
 have q3:=RK ps;have fr:∀(n':Nat)(M':Nat->Nat->Option (List SC))(y:SC),Wb M' n' y->PF s.next (NY pc) s.mem M'->s.next<=n'->M' 13 2=some (zD (xs.set zz.toNat (x,y)))->(NY y=NY pc\/∀N,NY y=some N->s.next<=N)->w7 L M' n' (xs.set zz.toNat (x,y)):=fun n' M' y h1 h2 h3 h4 h5=>DA.upd hq h4 zd h1 h2 h3 h5
 by_cases ua:ps=[]
 ·have hpc0:∀ M' n',Wb M' n' ⟨.sl false [],.ex⟩:=fun M' n'=>.inl ⟨false,[],.ex,rfl,.inr rfl,by simp,by simp⟩
  rcases ff with⟨nl,a,rfl⟩|⟨t,N,c0,rfl,ht,hN,hmt⟩
  ·subst ua;simp at g46;generalize gg:zD xs=R0 at *
   generalize ah:zD (xs.set zz.toNat (x,⟨.sl false [],.ex⟩))=R1 at *
   simp[-J,-yb,-y9,y0,-eD,-KC,FC,HC,JC,DC,e1,e4,e5,e6,m4,m5,ii,fa,g1,hLi,sj,uz,gu,hm,fc,ze,h8,g46,aq,tz,hg0',ui];refine JJ _ (xs.set zz.toNat (x,⟨.sl false [],.ex⟩)) ⟨.sl false [],.ex⟩ [] ⟨⟨?_,?_,?_,?_,?_,?_,fr _ _ _ ?_ ?_ ?_ ?_ ?_,?_⟩,⟨s.next+1,?_,?_⟩,?_,⟨0,?_,?_⟩,?_,hgz _,.inl ⟨rfl,rfl⟩,ju,hps⟩
   ·simp[e1]
   ·simp[e4]
   ·simp[e5]
   ·simp[e6]
   ·simp[m4]
   ·simp[m5]
   ·exact hpc0 _ _
   ·dsimp only
    repeat (first|exact PF.refl _ _ _|refine PF.set ?_ (.inr (by decide))|refine PF.set ?_ (.inl (by omega)))
   ·dsimp only;omega
   ·simp[ah]
   ·right;intro N hN;simp [NY] at hN
    try omega
   ·dsimp only;omega
   ·simp
   ·simp[ML]
   ·simp
   ·simp
   ·first|(intro _;omega)|simp
   ·simp
  ·subst ua;simp at g46 hmt ao;generalize gg:zD xs=R0 at *
   generalize ah:zD (xs.set zz.toNat (x,⟨.sl false [],.ex⟩))=R1 at *
   have h7:¬t=7:=by omega
   simp[-J,-yb,-y9,y0,-eD,-KC,FC,HC,JC,DC,e1,e4,e5,e6,m4,m5,ii,fa,g1,hLi,sj,uz,gu,hm,fc,ze,h8,g46,aq,tz,hg0',ui,hmt,ao,Cl.gA,h7];refine JJ _ (xs.set zz.toNat (x,⟨.sl false [],.ex⟩)) ⟨.sl false [],.ex⟩ [] ⟨⟨?_,?_,?_,?_,?_,?_,fr _ _ _ ?_ ?_ ?_ ?_ ?_,?_⟩,⟨s.next+1,?_,?_⟩,?_,⟨0,?_,?_⟩,?_,hgz _,.inl ⟨rfl,rfl⟩,ju,hps⟩
   ·simp[e1]
   ·simp[e4]
   ·simp[e5]
   ·simp[e6]
   ·simp[m4]
   ·simp[m5]
   ·exact hpc0 _ _
   ·dsimp only
    repeat (first|exact PF.refl _ _ _|refine PF.set ?_ (.inr (by decide))|refine PF.set ?_ (.inl (by omega)))
   ·dsimp only;omega
   ·simp[ah]
   ·right;intro N hN;simp [NY] at hN
    try omega
   ·dsimp only;omega
   ·simp
   ·simp[ML]
   ·simp
   ·simp
   ·first|(intro _;omega)|simp
   ·simp
 ·have dr:ps.isEmpty=false:=by simpa using ua
  have oh:0<ps.length:=List.length_pos_iff.2 ua;have al:(0:Int)<ps.length:=by omega
  have hln:¬ps.length=0:=by omega
  have js:c.a.tmod ps.length=c.a%ps.length:=yO (by omega);have df:=Int.emod_nonneg c.a (b:=(ps.length:Int)) (by omega);have tc:=Y0h c.a (b:=(ps.length:Int)) (by omega);obtain⟨kk,ad⟩:∃kk:Nat,c.a%(ps.length:Int)=kk:=⟨(c.a%(ps.length:Int)).toNat,by omega⟩;rw[ad]at js tc;obtain⟨R1,hR1'⟩:∃R1:Nat->List SC,∀n,zD (xs.set zz.toNat (x,⟨.ref 47 n 3 0 ps.length ps.length,.no⟩))=R1 n:=⟨_,fun n=>rfl⟩;simp only[hR1']at lg hg1;rcases ff with⟨nl,a,rfl⟩|⟨t,N,c0,rfl,ht,hN,hmt⟩
  ·generalize gg:zD xs=R0 at *
   simp[-J,-yb,-y9,y0,-eD,-KC,FC,HC,JC,DC,e1,e4,e5,e6,m4,m5,ii,fa,g1,hLi,sj,uz,gu,hm,fc,ze,h8,g46,aq,lg,hg1,ga,q3,dr,ua,oh,al,hln,hwa,js];refine JJ _ (xs.set zz.toNat (x,⟨.ref 47 (s.next+3) 3 0 ps.length ps.length,.no⟩)) ⟨.ref 47 (s.next+3) 3 0 ps.length ps.length,.no⟩ ps ⟨⟨?_,?_,?_,?_,?_,?_,fr _ _ _ ?_ ?_ ?_ ?_ ?_,?_⟩,⟨s.next+1,?_,?_⟩,?_,⟨kk,?_,?_⟩,?_,hgz _,.inr ⟨ua,s.next+3,rfl,by dsimp only;omega,by simp⟩,ju,hps⟩
   ·simp[e1]
   ·simp[e4]
   ·simp[e5]
   ·simp[e6]
   ·simp[m4]
   ·simp[m5]
   ·exact .inr ⟨47,s.next+3,ps.length,ps,rfl,.inl rfl,by dsimp only;omega,by simp,ju,hps⟩
   ·dsimp only
    repeat (first|exact PF.refl _ _ _|refine PF.set ?_ (.inr (by decide))|refine PF.set ?_ (.inl (by omega)))
   ·dsimp only;omega
   ·simp[<- hR1']
   ·right;intro N hN;simp [NY] at hN
    try omega
   ·dsimp only;omega
   ·simp
   ·simp[ML]
   ·simp
   ·simp
   ·first|(intro _;omega)|simp
   ·simp
  ·generalize gg:zD xs=R0 at *
   have h7:¬t=7:=by omega
   simp[-J,-yb,-y9,y0,-eD,-KC,FC,HC,JC,DC,e1,e4,e5,e6,m4,m5,ii,fa,g1,hLi,sj,uz,gu,hm,fc,ze,h8,g46,aq,lg,hg1,ga,q3,dr,ua,oh,al,hln,hwa,js,hmt,ao,Cl.gA,h7];refine JJ _ (xs.set zz.toNat (x,⟨.ref 47 (s.next+3) 3 0 ps.length ps.length,.no⟩)) ⟨.ref 47 (s.next+3) 3 0 ps.length ps.length,.no⟩ ps ⟨⟨?_,?_,?_,?_,?_,?_,fr _ _ _ ?_ ?_ ?_ ?_ ?_,?_⟩,⟨s.next+1,?_,?_⟩,?_,⟨kk,?_,?_⟩,?_,hgz _,.inr ⟨ua,s.next+3,rfl,by dsimp only;omega,by simp⟩,ju,hps⟩
   ·simp[e1]
   ·simp[e4]
   ·simp[e5]
   ·simp[e6]
   ·simp[m4]
   ·simp[m5]
   ·exact .inr ⟨47,s.next+3,ps.length,ps,rfl,.inl rfl,by dsimp only;omega,by simp,ju,hps⟩
   ·dsimp only
    repeat (first|exact PF.refl _ _ _|refine PF.set ?_ (.inr (by decide))|refine PF.set ?_ (.inl (by omega)))
   ·dsimp only;omega
   ·simp[<- hR1']
   ·right;intro N hN;simp [NY] at hN
    try omega
   ·dsimp only;omega
   ·simp
   ·simp[ML]
   ·simp
   ·simp
   ·first|(intro _;omega)|simp
   ·simp
section
theorem u8w (z:Int):u8 (IntKind.u8.wrap z):=by
 simp only[IntKind.wrap,IntKind.bits,IntKind.signed,u8];simp;omega
theorem o9 {α:Type}{xs:List α}{z:Nat}{q:α}(h:xs[z]?=some q):xs.set z q=xs:=by
 obtain⟨hz,rfl⟩:=yn.1 h;exact List.set_getElem_self hz
theorem OwnP.pci {s:LC}{ps:List MR}{pc:SC}(h:OwnP s ps pc)(ho:∀p∈ps,p.ok)(hs:ps.length*3<=140737488355328):Wb s.mem s.next pc:=by
 rcases h with⟨rfl,rfl⟩|⟨_,N,rfl,h2,h3⟩
 ·exact .inl ⟨false,[],.ex,rfl,.inr rfl,by simp,by simp⟩
 ·exact .inr ⟨47,N,_,ps,rfl,.inl rfl,h2,h3,ho,hs⟩
section
variable {r:RV} {cn:Bool} {cs:List D2} {L i:Nat} {xs:List Nd} {c:D2} {z:Nat} {x:OF} {pc:SC} {ps:List MR} {s:LC}
theorem sw0 (hc:c.ok)(hm:c.kind%8=0)(h:Cf cn cs L i xs c z x pc ps s)(k:Ex->LC->Option RV)(hk:∀s2 kj,F3 cn cs L i kj s2->k .nrm s2=some r):FE.run (sF MC ZC) (jH MC ZC) s k=some r:=by
 obtain⟨⟨e1,e4,e5,e6,m4,m5,DA,nx⟩,⟨n7,e7,m7⟩,e8,⟨kk,e9,ad⟩,UB,hz,kC,ok,sz⟩:=h;rw[hm]at UB;have zd:=DA.num _ (yr hz);have ii:=DA.row;have g:=OH hz 1 (by omega);have sb:∀v,KC false 1 (z*5+1) (zD xs) (.int .u8 v) .no=some (zD (xs.set z ({ x with a:=v },pc))):=fun v=>aH hz 1 (by omega) _ .no rfl rfl
 obtain⟨R1,ah⟩:∃R1:Int->List SC,∀v,zD (xs.set z ({ x with a:=v },pc))=R1 v:=⟨_,fun v=>rfl⟩;simp only[ah]at sb;simp only[kK]at g;simp at g;generalize gg:zD xs=R0 at *
 simp only[ML]at m7;have h7:∀n,¬(7=13/\n=2):=by simp
 simp[FE,-J,-yb,-y9,y0,-eD,-KC,FC,HC,JC,DC,e7,m7,e8,UB,ii,g,sb];refine hk _ (xs.set z ({ x with a:=IntKind.u8.wrap (IntKind.u8.wrap (x.a+c.a.tmod 5)-2) },pc)) ⟨?_,?_,?_,?_,?_,?_,DA.upd hz ?_ ⟨zd.1,u8w _,zd.2.2⟩ ?_ ?_ ?_ (.inl rfl),?_⟩
 ·simp[e1]
 ·simp[e4]
 ·simp[e5]
 ·simp[e6]
 ·simp[m4]
 ·simp[m5]
 ·simp[ah]
 ·refine(kC.pci ok sz).gC (ex:=none) ?_ (by dsimp only;omega) (by simp);exact PF.set (PF.refl _ _ _) (.inr (by decide))
 ·exact PF.set (PF.refl _ _ _) (.inr (by decide))
 ·dsimp only;omega
 ·dsimp only;omega
theorem sw1 (hc:c.ok)(hm:c.kind%8=1)(h:Cf cn cs L i xs c z x pc ps s)(k:Ex->LC->Option RV)(hk:∀s2 kj,F3 cn cs L i kj s2->k .nrm s2=some r):FE.run (sF MC ZC) (jH MC ZC) s k=some r:=by
 obtain⟨⟨e1,e4,e5,e6,m4,m5,DA,nx⟩,⟨n7,e7,m7⟩,e8,⟨kk,e9,ad⟩,UB,hz,kC,ok,sz⟩:=h;rw[hm]at UB;have zd:=DA.num _ (yr hz);have ii:=DA.row;have g:=OH hz 2 (by omega);have sb:∀v,KC false 1 (z*5+2) (zD xs) (.int .u8 v) .no=some (zD (xs.set z ({ x with b:=v },pc))):=fun v=>aH hz 2 (by omega) _ .no rfl rfl
 obtain⟨R1,ah⟩:∃R1:Int->List SC,∀v,zD (xs.set z ({ x with b:=v },pc))=R1 v:=⟨_,fun v=>rfl⟩;simp only[ah]at sb;simp only[kK]at g;simp at g;generalize gg:zD xs=R0 at *
 simp only[ML]at m7;have h7:∀n,¬(7=13/\n=2):=by simp
 simp[FE,-J,-yb,-y9,y0,-eD,-KC,FC,HC,JC,DC,e7,m7,e8,UB,ii,g,sb];refine hk _ (xs.set z ({ x with b:=IntKind.u8.wrap (IntKind.u8.wrap (x.b+c.b.tmod 5)-2) },pc)) ⟨?_,?_,?_,?_,?_,?_,DA.upd hz ?_ ⟨zd.1,zd.2.1,u8w _,zd.2.2.2⟩ ?_ ?_ ?_ (.inl rfl),?_⟩
 ·simp[e1]
 ·simp[e4]
 ·simp[e5]
 ·simp[e6]
 ·simp[m4]
 ·simp[m5]
 ·simp[ah]
 ·refine(kC.pci ok sz).gC (ex:=none) ?_ (by dsimp only;omega) (by simp);exact PF.set (PF.refl _ _ _) (.inr (by decide))
 ·exact PF.set (PF.refl _ _ _) (.inr (by decide))
 ·dsimp only;omega
 ·dsimp only;omega
theorem sw3 (hc:c.ok)(hm:c.kind%8=3)(h:Cf cn cs L i xs c z x pc ps s)(k:Ex->LC->Option RV)(hk:∀s2 kj,F3 cn cs L i kj s2->k .nrm s2=some r):FE.run (sF MC ZC) (jH MC ZC) s k=some r:=by
 obtain⟨⟨e1,e4,e5,e6,m4,m5,DA,nx⟩,⟨n7,e7,m7⟩,e8,⟨kk,e9,ad⟩,UB,hz,kC,ok,sz⟩:=h;rw[hm]at UB;have zd:=DA.num _ (yr hz);have ii:=DA.row;have g:=OH hz 3 (by omega);have sb:∀v,KC false 1 (z*5+3) (zD xs) (.int .u8 v) .no=some (zD (xs.set z ({ x with c:=v },pc))):=fun v=>aH hz 3 (by omega) _ .no rfl rfl
 obtain⟨R1,ah⟩:∃R1:Int->List SC,∀v,zD (xs.set z ({ x with c:=v },pc))=R1 v:=⟨_,fun v=>rfl⟩;simp only[ah]at sb;simp only[kK]at g;simp at g;generalize gg:zD xs=R0 at *
 simp only[ML]at m7;have h7:∀n,¬(7=13/\n=2):=by simp
 simp[FE,-J,-yb,-y9,y0,-eD,-KC,FC,HC,JC,DC,e7,m7,e8,UB,ii,g,sb];refine hk _ (xs.set z ({ x with c:=IntKind.u8.wrap (x.c+c.a) },pc)) ⟨?_,?_,?_,?_,?_,?_,DA.upd hz ?_ ⟨zd.1,zd.2.1,zd.2.2.1,u8w _⟩ ?_ ?_ ?_ (.inl rfl),?_⟩
 ·simp[e1]
 ·simp[e4]
 ·simp[e5]
 ·simp[e6]
 ·simp[m4]
 ·simp[m5]
 ·simp[ah]
 ·refine(kC.pci ok sz).gC (ex:=none) ?_ (by dsimp only;omega) (by simp);exact PF.set (PF.refl _ _ _) (.inr (by decide))
 ·exact PF.set (PF.refl _ _ _) (.inr (by decide))
 ·dsimp only;omega
 ·dsimp only;omega
theorem sw2 (hc:c.ok)(hm:c.kind%8=2)(h:Cf cn cs L i xs c z x pc ps s)(k:Ex->LC->Option RV)(hk:∀s2 kj,F3 cn cs L i kj s2->k .nrm s2=some r):FE.run (sF MC ZC) (jH MC ZC) s k=some r:=by
 obtain⟨⟨e1,e4,e5,e6,m4,m5,DA,nx⟩,⟨n7,e7,m7⟩,e8,⟨kk,e9,ad⟩,UB,hz,kC,ok,sz⟩:=h;rw[hm]at UB;have zd:=DA.num _ (yr hz);have ii:=DA.row;have g:=OH hz 1 (by omega);have sb:∀v,KC false 1 (z*5+1) (zD xs) (.int .u8 v) .no=some (zD (xs.set z ({ x with a:=v },pc))):=fun v=>aH hz 1 (by omega) _ .no rfl rfl
 obtain⟨R1,ah⟩:∃R1:Int->List SC,∀v,zD (xs.set z ({ x with a:=v },pc))=R1 v:=⟨_,fun v=>rfl⟩;simp only[ah]at sb;simp only[kK]at g;simp at g;generalize gg:zD xs=R0 at *
 simp only[ML]at m7;have h7:∀n,¬(7=13/\n=2):=by simp
 have h6:c.a.tmod 6=c.a%6:=yO hc.2.2.1.1;have h60:0<=c.a%6:=Int.emod_nonneg _ (by omega);simp[FE,-J,-yb,-y9,y0,-eD,-KC,FC,HC,JC,DC,h6,h60,ZU,e7,m7,e8,UB,ii,g,sb];refine hk _ (xs.set z ({ x with a:=IntKind.u8.wrap (((x.a%2 ^ IntKind.u8.bits).toNat ^^^ (IntKind.u8.wrap (2 ^ shN IntKind.u8 (c.a%6))%2 ^ IntKind.u8.bits).toNat:Nat):Int) },pc)) ⟨?_,?_,?_,?_,?_,?_,DA.upd hz ?_ ⟨zd.1,u8w _,zd.2.2⟩ ?_ ?_ ?_ (.inl rfl),?_⟩
 ·simp[e1]
 ·simp[e4]
 ·simp[e5]
 ·simp[e6]
 ·simp[m4]
 ·simp[m5]
 ·simp[ah]
 ·refine(kC.pci ok sz).gC (ex:=none) ?_ (by dsimp only;omega) (by simp);exact PF.set (PF.refl _ _ _) (.inr (by decide))
 ·exact PF.set (PF.refl _ _ _) (.inr (by decide))
 ·dsimp only;omega
 ·dsimp only;omega
end
end
section
theorem PF.setX {n:Nat}{ex:Option Nat}{M M':Nat->Nat->Option (List SC)}(h:PF n ex M M'){t' n':Nat}{r:List SC}(hn:ex=some n'):PF n ex M (DN M' t' n' r):=fun t N ps ht hN hx hm=>by
 rw[CC,if_neg]
 ·exact h t N ps ht hN hx hm
 ·rintro⟨rfl,rfl⟩;exact hx hn.symm
section
variable {r:RV} {cn:Bool} {cs:List D2} {L i:Nat} {xs:List Nd} {c:D2} {z:Nat} {x:OF} {pc:SC} {ps:List MR} {s:LC}
theorem F3.nothing {E:Nat->SC}{n:Nat}(h:F3 cn cs L i xs s)(h1:(E 1).v=(s.env 1).v)(h4:(E 4).v=(s.env 4).v)(h5:(E 5).v=(s.env 5).v)(h6:(E 6).v=(s.env 6).v)(hn:s.next<=n):F3 cn cs L i xs ⟨E,s.mem,n,s.obj,s.gh⟩:=by
 obtain⟨e1,e4,e5,e6,m4,m5,DA,nx⟩:=h;exact⟨h1.trans e1,h4.trans e4,h5.trans e5,h6.trans e6,m4,m5,⟨DA.len,DA.row,DA.num,fun q hq=>(DA.pc q hq).gC (ex:=none) (PF.refl _ _ _) hn (by simp),DA.dist⟩,by dsimp only;omega⟩
theorem sw6 (hc:c.ok)(hm:c.kind%8=6)(h:Cf cn cs L i xs c z x pc ps s)(k:Ex->LC->Option RV)(hk:∀s2 kj,F3 cn cs L i kj s2->k .nrm s2=some r):FE.run (sF MC ZC) (jH MC ZC) s k=some r:=by
 obtain⟨ch,⟨n7,e7,m7⟩,e8,⟨kk,e9,ad⟩,UB,hz,kC,ok,sz⟩:=h;have ch':=ch;obtain⟨e1,e4,e5,e6,m4,m5,DA,nx⟩:=ch;rw[hm]at UB;have zd:=DA.num _ (yr hz);have ii:=DA.row;have g:=OH hz 4 (by omega);simp only[kK]at g;simp at g;simp only[ML]at m7;rcases kC with⟨rfl,rfl⟩|⟨ua,N,rfl,hN,hmN⟩
 ·generalize gg:zD xs=R0 at *
  simp[FE,-J,-yb,-y9,y0,-eD,-KC,FC,HC,JC,DC,e7,m7,e8,UB,ii,g];refine hk _ xs (ch'.nothing ?_ ?_ ?_ ?_ ?_)
  ·simp
  ·simp
  ·simp
  ·simp
  ·omega
 ·have tr:=ad ua;have oh:0<ps.length:=List.length_pos_iff.2 ua;have al:(0:Int)<ps.length:=by omega
  have hkli:(kk:Int)<ps.length:=by omega
  obtain⟨p,hp⟩:∃p,ps[kk]?=some p:=⟨_,yf tr⟩;have sb:=K8 (RK ps) (k:=kk) (c:=IG p) (by rw[yk,hp];rfl) (j:=2) (by simp[IG]) (x:=.int .u8 c.b) rfl 1;have wt:qD ((ps.map IG).set kk ((IG p).set 2 (.int .u8 c.b)))=qD ((ps.set kk { p with flag:=c.b }).map IG):=by
   rw[List.map_set];rfl
  rw[wt]at sb;have ju:=ok p (yr hp);have ri:∀q∈ps.set kk { p with flag:=c.b },q.ok:=fun q hq=>by
   rcases List.mem_or_eq_of_mem_set hq with hq|rfl
   ·exact ok q hq
   ·exact⟨ju.1,ju.2.1,hc.2.2.2⟩
  generalize gg:zD xs=R0 at *
  generalize hR2:qD (ps.map IG)=R2 at *
  generalize du:qD ((ps.set kk { p with flag:=c.b }).map IG)=R3 at *
  have hN7:¬(13=47/\2=N):=by simp
  simp[FE,-J,-yb,-y9,y0,-eD,-KC,FC,HC,JC,DC,e7,m7,e8,e9,UB,ii,g,oh,al,tr,hkli,hmN,sb];refine hk _ (xs.set z (x,⟨.ref 47 N 3 0 ps.length ps.length,.no⟩)) ⟨?_,?_,?_,?_,?_,?_,DA.upd hz ?_ zd ?_ ?_ ?_ (.inl rfl),?_⟩
  ·simp[e1]
  ·simp[e4]
  ·simp[e5]
  ·simp[e6]
  ·simp[m4]
  ·simp[m5]
  ·rw[o9 hz];simp[ii,gg]
  ·refine .inr ⟨47,N,ps.length,ps.set kk { p with flag:=c.b },by simp,.inl rfl,by dsimp only;omega,by rw[du];simp,ri,by simpa using sz⟩
  ·exact PF.setX (PF.refl _ _ _) rfl
  ·dsimp only;omega
  ·dsimp only;omega
theorem sw7 (hc:c.ok)(hm:c.kind%8=7)(h:Cf cn cs L i xs c z x pc ps s)(k:Ex->LC->Option RV)(hk:∀s2 kj,F3 cn cs L i kj s2->k .nrm s2=some r):FE.run (sF MC ZC) (jH MC ZC) s k=some r:=by
 obtain⟨ch,⟨n7,e7,m7⟩,e8,⟨kk,e9,ad⟩,UB,hz,kC,ok,sz⟩:=h;have ch':=ch;obtain⟨e1,e4,e5,e6,m4,m5,DA,nx⟩:=ch;rw[hm]at UB;have zd:=DA.num _ (yr hz);have ii:=DA.row;have g:=OH hz 4 (by omega);simp only[kK]at g;simp at g;simp only[ML]at m7;rcases kC with⟨rfl,rfl⟩|⟨ua,N,rfl,hN,hmN⟩
 ·generalize gg:zD xs=R0 at *
  simp[FE,-J,-yb,-y9,y0,-eD,-KC,FC,HC,JC,DC,e7,m7,e8,UB,ii,g];refine hk _ xs (ch'.nothing ?_ ?_ ?_ ?_ ?_)
  ·simp
  ·simp
  ·simp
  ·simp
  ·omega
 ·have tr:=ad ua;have oh:0<ps.length:=List.length_pos_iff.2 ua;have al:(0:Int)<ps.length:=by omega
  have hkli:(kk:Int)<ps.length:=by omega
  obtain⟨p,hp⟩:∃p,ps[kk]?=some p:=⟨_,yf tr⟩;have sb:=K8 (RK ps) (k:=kk) (c:=IG p) (by rw[yk,hp];rfl) (j:=1) (by simp[IG]) (x:=.int .u8 (IntKind.u8.wrap (p.ty+c.b))) rfl 1;have hgt:=Oc (RK ps) (k:=kk) (c:=IG p) (by rw[yk,hp];rfl) (j:=1) (v:=.int .u8 p.ty) (by simp[IG]) 1;rw[FC]at hgt;have wt:qD ((ps.map IG).set kk ((IG p).set 1 (.int .u8 (IntKind.u8.wrap (p.ty+c.b)))))=qD ((ps.set kk { p with ty:=IntKind.u8.wrap (p.ty+c.b) }).map IG):=by
   rw[List.map_set];rfl
  rw[wt]at sb;have ju:=ok p (yr hp);have ri:∀q∈ps.set kk { p with ty:=IntKind.u8.wrap (p.ty+c.b) },q.ok:=fun q hq=>by
   rcases List.mem_or_eq_of_mem_set hq with hq|rfl
   ·exact ok q hq
   ·exact⟨ju.1,u8w _,ju.2.2⟩
  generalize gg:zD xs=R0 at *
  generalize hR2:qD (ps.map IG)=R2 at *
  generalize du:qD ((ps.set kk { p with ty:=IntKind.u8.wrap (p.ty+c.b) }).map IG)=R3 at *
  have hN7:¬(13=47/\2=N):=by simp
  simp[FE,-J,-yb,-y9,y0,-eD,-KC,FC,HC,JC,DC,e7,m7,e8,e9,UB,ii,g,oh,al,tr,hkli,hmN,sb,hgt];refine hk _ (xs.set z (x,⟨.ref 47 N 3 0 ps.length ps.length,.no⟩)) ⟨?_,?_,?_,?_,?_,?_,DA.upd hz ?_ zd ?_ ?_ ?_ (.inl rfl),?_⟩
  ·simp[e1]
  ·simp[e4]
  ·simp[e5]
  ·simp[e6]
  ·simp[m4]
  ·simp[m5]
  ·rw[o9 hz];simp[ii,gg]
  ·refine .inr ⟨47,N,ps.length,ps.set kk { p with ty:=IntKind.u8.wrap (p.ty+c.b) },by simp,.inl rfl,by dsimp only;omega,by rw[du];simp,ri,by simpa using sz⟩
  ·exact PF.setX (PF.refl _ _ _) rfl
  ·dsimp only;omega
  ·dsimp only;omega
theorem sw4 (hc:c.ok)(hm:c.kind%8=4)(h:Cf cn cs L i xs c z x pc ps s)(k:Ex->LC->Option RV)(hk:∀s2 kj,F3 cn cs L i kj s2->k .nrm s2=some r):FE.run (sF MC ZC) (jH MC ZC) s k=some r:=by
 obtain⟨ch,⟨n7,e7,m7⟩,e8,⟨kk,e9,ad⟩,UB,hz,kC,ok,sz⟩:=h;have ch':=ch;obtain⟨e1,e4,e5,e6,m4,m5,DA,nx⟩:=ch;rw[hm]at UB;have zd:=DA.num _ (yr hz);have ii:=DA.row;have g:=OH hz 4 (by omega);simp only[kK]at g;simp at g;simp only[ML]at m7;obtain⟨wq,hc2,hc3,hc4⟩:=hc;have h12:u8 (IntKind.u8.wrap (c.a.tdiv 12)):=u8w _;have hq:(⟨c.a,c.b,IntKind.u8.wrap (c.a.tdiv 12)⟩:MR).ok:=⟨hc3,hc4,h12⟩;generalize ko:IntKind.u8.wrap (c.a.tdiv 12)=fl at *
 have sb:∀n l y,(xs.set z (x,y))[z]?=some (x,y)->KC false 1 (z*5+4) (zD (xs.set z (x,y))) (.ref 168 n 3 0 l l) .no=some (zD (xs.set z (x,⟨.ref 168 n 3 0 l l,.no⟩))):=fun n l y hy=>by
  rw[aH hy 4 (by omega) _ .no rfl rfl (q':=(x,⟨.ref 168 n 3 0 l l,.no⟩)),List.set_set]
 have lr:=(yn.1 hz).1;have room3:pD 3 1=true:=by decide
 rcases kC with⟨rfl,rfl⟩|⟨ua,N,rfl,hN,hmN⟩
 ·have lg:∀ n l,KC false 1 (z * 5 + 4) (zD xs) (.ref 168 n 3 0 l l) .no=some (zD (xs.set z (x,⟨.ref 168 n 3 0 l l,.no⟩))):=fun n l=>aH hz 4 (by omega) _ .no rfl rfl
  obtain⟨R1,ah⟩:∃R1:Nat->Nat->List SC,∀n l,zD (xs.set z (x,⟨.ref 168 n 3 0 l l,.no⟩))=R1 n l:=⟨_,fun n l=>rfl⟩;simp only[ah]at lg;generalize gg:zD xs=R0 at *
  simp[FE,-J,-yb,-y9,y0,-eD,-KC,FC,HC,JC,DC,e7,m7,e8,UB,ii,g,room3,lg,ko];refine hk _ (xs.set z (x,⟨.ref 168 (s.next+6) 3 0 1 1,.no⟩)) ⟨?_,?_,?_,?_,?_,?_,DA.upd hz ?_ zd ?_ ?_ ?_ (.inr fun M hM=>?_),?_⟩
  ·simp[e1]
  ·simp[e4]
  ·simp[e5]
  ·simp[e6]
  ·simp[m4]
  ·simp[m5]
  ·simp[ah]
  ·refine .inr ⟨168,s.next+6,1,[⟨c.a,c.b,fl⟩],rfl,.inr (.inl rfl),by dsimp only;omega,by simp[IG],by simpa using hq,by simp⟩
  ·exact PF.set (PF.set (PF.refl _ _ _) (.inl (by omega))) (.inr (by decide))
  ·dsimp only;omega
  ·simp[NY]at hM;omega
  ·dsimp only;omega
 ·by_cases h8:ps.length<8
  ·have h8i:(ps.length:Int)<8:=by omega
   have tr:=kY DA hz (t:=47) (N:=N) rfl;have hkl':(zD xs).map (SC.kill 47 N)=zD (xs.set z (x,⟨.undef,.no⟩)):=by
    rw[tr];simp[SC.iA,AV.kill,AV.rA]
   have lg:∀n,KC false 1 (z*5+4) ((zD xs).map (SC.kill 47 N)) (.ref 168 n 3 0 (ps.length+1) (ps.length+1)) .no=some (zD (xs.set z (x,⟨.ref 168 n 3 0 (ps.length+1) (ps.length+1),.no⟩))):=fun n=>by
    rw[hkl'];exact sb n (ps.length+1) _ (Y0n lr)
   obtain⟨R1,ah⟩:∃R1:Nat->List SC,∀n,zD (xs.set z (x,⟨.ref 168 n 3 0 (ps.length+1) (ps.length+1),.no⟩))=R1 n:=⟨_,fun n=>rfl⟩;simp only[ah]at lg;have q3:=RK ps;have ao:KG (qD (ps.map IG)) 3 0 ps.length=some (ps.map IG):=by
    have:=AE (RK ps) (nQ ps);simpa using this
   have ga:pD 3 (ps.length+1)=true:=by rw[XC];omega
   have jk:qD (ps.map IG++[[AV.int .u8 c.a,AV.int .u8 c.b,AV.int .u8 fl]])=qD ((ps++[(⟨c.a,c.b,fl⟩:MR)]).map IG):=by simp[IG]
   generalize gg:zD xs=R0 at *
   generalize hR2:qD (ps.map IG)=R2 at *
   have oh:0<ps.length:=List.length_pos_iff.2 ua;simp[FE,-J,-yb,-y9,y0,-eD,-KC,FC,HC,JC,DC,e7,m7,e8,UB,ii,g,lg,ko,h8,h8i,hmN,ao,ga,q3,Cl.gA];refine hk _ (xs.set z (x,⟨.ref 168 (s.next+6) 3 0 (ps.length+1) (ps.length+1),.no⟩)) ⟨?_,?_,?_,?_,?_,?_,DA.upd hz ?_ zd ?_ ?_ ?_ (.inr fun M hM=>?_),?_⟩
   ·simp[e1]
   ·simp[e4]
   ·simp[e5]
   ·simp[e6]
   ·simp[m4]
   ·simp[m5]
   ·simp[ah]
   ·refine .inr ⟨168,s.next + 6,ps.length + 1,ps++[⟨c.a,c.b,fl⟩],by simp,.inr (.inl rfl),by dsimp only; omega,by rw [<- jk]; simp,?_,by simp; omega⟩;intro p hp;rcases yu.1 hp with hp | hp
    ·exact ok p hp
    ·simp at hp;rw[hp];exact hq
   ·exact PF.set (PF.set (PF.kill (PF.refl _ _ _) rfl) (.inl (by omega))) (.inr (by decide))
   ·dsimp only;omega
   ·simp[NY]at hM;omega
   ·dsimp only;omega
  ·have h8i:¬ (ps.length:Int)<8:=by omega
   generalize gg:zD xs=R0 at *
   simp[FE,-J,-yb,-y9,y0,-eD,-KC,FC,HC,JC,DC,e7,m7,e8,UB,ii,g,h8,h8i];refine hk _ xs (ch'.nothing ?_ ?_ ?_ ?_ ?_)
   ·simp
   ·simp
   ·simp
   ·simp
   ·omega
end
end
section
theorem O1 {sz:Nat}{L:List (List AV)}(h:kD sz L=true)(hf:ND L=true){a b:Nat}(og:a+b<=L.length):KG (qD L) sz (a*sz) b=some ((L.drop a).take b):=by
 have h1:=AE h hf;have hl:=BJ h;unfold KG at h1 ⊢;split at h1
 case isFalse=>cases h1
 rename_i hc;injection h1 with h1;have bc:a*sz+b*sz<=(qD L).length:=by
  rw[hl,<- yL];exact Y0e _ og
 rw[if_pos ⟨bc,hc.2⟩];congr 1;refine List.ext_getElem? fun i=>?_
 by_cases hi:i<b
 ·have e1:=congrArg (·[a+i]?) h1;simp only[yk]at e1;rw[List.getElem?_range (by omega)]at e1;rw[yk,List.getElem?_range hi,yK,if_pos hi,yI,<- e1];simp only[yB,yy,yL]
 ·rw[Y08 (by simp;omega),Y08 (by simp;omega)]
section
variable {r:RV} {cn:Bool} {cs:List D2} {L i:Nat} {xs:List Nd} {c:D2} {z:Nat} {x:OF} {pc:SC} {ps:List MR} {s:LC}
theorem sw5 (hc:c.ok)(hm:c.kind%8=5)(h:Cf cn cs L i xs c z x pc ps s)(k:Ex->LC->Option RV)(hk:∀s2 kj,F3 cn cs L i kj s2->k .nrm s2=some r):FE.run (sF MC ZC) (jH MC ZC) s k=some r:=by
 obtain⟨ch,⟨n7,e7,m7⟩,e8,⟨kk,e9,ad⟩,UB,hz,kC,ok,sz⟩:=h;have ch':=ch;obtain⟨e1,e4,e5,e6,m4,m5,DA,nx⟩:=ch;rw[hm]at UB;have zd:=DA.num _ (yr hz);have ii:=DA.row;have g:=OH hz 4 (by omega);simp only[kK]at g;simp at g;simp only[ML]at m7;have lr:=(yn.1 hz).1;rcases kC with⟨rfl,rfl⟩|⟨ua,N,rfl,hN,hmN⟩
 ·generalize gg:zD xs=R0 at *
  simp[FE,-J,-yb,-y9,y0,-eD,-KC,FC,HC,JC,DC,e7,m7,e8,UB,ii,g];refine hk _ xs (ch'.nothing ?_ ?_ ?_ ?_ ?_)
  ·simp
  ·simp
  ·simp
  ·simp
  ·omega
 ·have tr:=ad ua;have oh:0<ps.length:=List.length_pos_iff.2 ua;have al:(0:Int)<ps.length:=by omega
  have hwk:=rE (i:=kk);have hkle:kk<=ps.length:=by omega
  have df:(0:Int)<=(kk:Int)+1:=by omega
  have kv:=kY DA hz (t:=47) (N:=N) rfl;have hkill':(zD xs).map (SC.kill 47 N)=zD (xs.set z (x,⟨.undef,.no⟩)):=by
   rw[kv];simp[SC.iA,AV.kill,AV.rA]
  have lg:∀n l,KC false 1 (z*5+4) ((zD xs).map (SC.kill 47 N)) (.ref 193 n 3 0 l l) .no=some (zD (xs.set z (x,⟨.ref 193 n 3 0 l l,.no⟩))):=fun n l=>by
   have hs:=aH (show(xs.set z (x,(⟨.undef,.no⟩:SC)))[z]?=some (x,⟨.undef,.no⟩)from Y0n lr) 4 (by omega) (.ref 193 n 3 0 l l) .no rfl (q':=(x,⟨.ref 193 n 3 0 l l,.no⟩)) rfl;rw[hkill',hs,List.set_set]
  obtain⟨R1,ah⟩:∃R1:Nat->Nat->List SC,∀n l,zD (xs.set z (x,⟨.ref 193 n 3 0 l l,.no⟩))=R1 n l:=⟨_,fun n l=>rfl⟩;simp only[ah]at lg;have q1:=RK (ps.take kk);have q2:=RK (ps.drop (kk+1));have hre1:KG (qD (ps.map IG)) 3 0 kk=some ((ps.take kk).map IG):=by
   have:=O1 (RK ps) (nQ ps) (a:=0) (b:=kk) (by simp;omega);simpa [yW]using this
  have hre2:KG (qD (ps.map IG)) 3 ((kk+1)*3) (ps.length-(kk+1))=some ((ps.drop (kk+1)).map IG):=by
   have:=O1 (RK ps) (nQ ps) (a:=kk+1) (b:=ps.length-(kk+1)) (by simp;omega);rw[this,Y01,Y0b (by simp)]
  have ga:pD 3 (kk+(ps.length-(kk+1)))=true:=by rw[XC];omega
  have ui:pD 3 kk=true:=by rw[XC];omega
  have ri:∀q∈ps.take kk++ps.drop (kk+1),q.ok:=fun q hq=>by
   rcases yu.1 hq with hq|hq
   ·exact ok q (Y0i hq)
   ·exact ok q (List.mem_of_mem_drop hq)
  have rz:qD ((ps.take kk).map IG++(ps.drop (kk+1)).map IG)=qD ((ps.take kk++ps.drop (kk+1)).map IG):=by rw[Y03]
  have xh:(ps.take kk).length=kk:=by rw[yz];omega
  have ik:(ps.drop (kk+1)).length=ps.length-(kk+1):=yJ;have da:(ps.take kk++ps.drop (kk+1)).length=kk+(ps.length-(kk+1)):=by rw[yj,xh,ik]
  generalize hT:ps.take kk=T at *
  generalize hD:ps.drop (kk+1)=D at *
  generalize gg:zD xs=R0 at *
  generalize hR2:qD (ps.map IG)=R2 at *
  by_cases ur:ps.length=kk+1
  ·have hD0:D=[]:=Y04 (by omega);subst hD0;simp only [yF] at ri;simp [FE,-J,-yb,-y9,y0,-eD,-KC,FC,HC,JC,DC,e7,m7,e8,e9,UB,ii,g,lg,oh,al,hkle,df,hwk,hmN,ur,hre1,ui,q1,Cl.gA,kL];refine hk _ (xs.set z (x,⟨.ref 193 (s.next + 7) 3 0 (kk) (kk),.no⟩)) ⟨?_,?_,?_,?_,?_,?_,DA.upd hz ?_ zd ?_ ?_ ?_ (.inr fun M hM=>?_),?_⟩
   ·simp[e1]
   ·simp[e4]
   ·simp[e5]
   ·simp[e6]
   ·simp[m4]
   ·simp[m5]
   ·simp[ah]
   ·refine .inr ⟨193,s.next+7,kk,T,by rw[xh],.inr (.inr rfl),by dsimp only;omega,by simp,ri,by rw[xh];omega⟩
   ·exact PF.set (PF.set (PF.kill (PF.refl _ _ _) rfl) (.inl (by omega))) (.inr (by decide))
   ·dsimp only;omega
   ·simp[NY]at hM;omega
   ·dsimp only;omega
  ·have h1:kk + 1<=ps.length:=by omega
   simp[FE,-J,-yb,-y9,y0,-eD,-KC,FC,HC,JC,DC,e7,m7,e8,e9,UB,ii,g,lg,oh,al,hkle,df,hwk,hmN,ur,h1,hre1,hre2,ga,q1,q2,ik,Cl.gA,kL];refine hk _ (xs.set z (x,⟨.ref 193 (s.next+7) 3 0 (kk+(ps.length-(kk+1))) (kk+(ps.length-(kk+1))),.no⟩)) ⟨?_,?_,?_,?_,?_,?_,DA.upd hz ?_ zd ?_ ?_ ?_ (.inr fun M hM=>?_),?_⟩
   ·simp[e1]
   ·simp[e4]
   ·simp[e5]
   ·simp[e6]
   ·simp[m4]
   ·simp[m5]
   ·simp[ah]
   ·refine .inr ⟨193,s.next+7,kk+(ps.length-(kk+1)),T++D,by rw[da],.inr (.inr rfl),by dsimp only;omega,by rw[<- rz];simp,ri,by rw[da];omega⟩
   ·exact PF.set (PF.set (PF.kill (PF.refl _ _ _) rfl) (.inl (by omega))) (.inr (by decide))
   ·dsimp only;omega
   ·simp[NY]at hM;omega
   ·dsimp only;omega
theorem sw_ev (hc:c.ok)(h:Cf cn cs L i xs c z x pc ps s)(k:Ex->LC->Option RV)(hk:∀s2 kj,F3 cn cs L i kj s2->k .nrm s2=some r):FE.run (sF MC ZC) (jH MC ZC) s k=some r:=by
 have h0:=Int.emod_nonneg c.kind (b:=8) (by omega);have h1:=Y0h c.kind (b:=8) (by omega);by_cases m0:c.kind%8=0
 ·exact sw0 hc m0 h k hk
 by_cases m1:c.kind%8=1
 ·exact sw1 hc m1 h k hk
 by_cases m2:c.kind%8=2
 ·exact sw2 hc m2 h k hk
 by_cases m3:c.kind%8=3
 ·exact sw3 hc m3 h k hk
 by_cases m4:c.kind%8=4
 ·exact sw4 hc m4 h k hk
 by_cases m5:c.kind%8=5
 ·exact sw5 hc m5 h k hk
 by_cases m6:c.kind%8=6
 ·exact sw6 hc m6 h k hk
 ·exact sw7 hc (by omega) h k hk
end
end
theorem Ic {R R':List SC}(h:R.map (·.v)=R'.map (·.v))(sz off len:Nat):PH R sz off len=PH R' sz off len:=by
 have hl:R.length=R'.length:=by simpa using congrArg List.length h
 unfold PH;rw[hl];split
 ·congr 1;refine yE fun i _=>?_
  rw[yW,yW,Y01,Y01,h]
 ·rfl
theorem Ql {s:LC}{t n sz c:Nat}{L:List (List AV)}{R:List SC}(h:kD sz L=true)(hm:s.mem t n=some R)(hv:R.map (·.v)=(qD L).map (·.v))(hf:(L.map fun c=>c.map (AV.xA s)).flatten.all AV.tA=true):AV.lA s (.ref t n sz 0 L.length c)=.sl false (L.map fun c=>c.map (AV.xA s)):=by
 have hr:PH R sz 0 L.length=some L:=by
  rw[Ic hv];exact GI fun c hc=>by simpa using ye.1 h c hc
 have hal:R.all (fun x=>x.v.tA)=(qD L).all (fun x=>x.v.tA):=by
  have e:∀q:List SC,q.all (fun x=>x.v.tA)=(q.map (·.v)).all AV.tA:=fun q=>by rw[List.all_map];rfl
  rw[e,e,hv]
 simp only[AV.lA,hm,J,Z4,hal];by_cases nb:(qD L).all (fun x=>x.v.tA)=true
 ·rw[if_pos nb,hr];have:(L.map fun c=>c.map (AV.xA s))=L.map id:=yE fun c hc=>by
   have:c.map (AV.xA s)=c.map id:=yE fun v hv=>s4 (by
    have:=ye.1 nb ⟨v,.no⟩ (yD.2 ⟨v,List.mem_flatten.2 ⟨c,hc,hv⟩,rfl⟩);exact this)
   rwa [List.map_id]at this
  rw[this,List.map_id]
 ·rw[if_neg nb];simp only[fT,hr,J];rw[if_pos hf]
def ndC (q:Nd):List AV:=(kK q).map (·.v)
theorem E8:∀xs:List Nd,(zD xs).map (·.v)=(qD (xs.map ndC)).map (·.v)
 | []=>rfl
 |q::r=>by
  have:=E8 r;unfold zD qD at this ⊢;simp only[Y0a,Y03,ym,yA];rw[this];simp[ndC]
def OF.sized (x:OF):Prop:=x.parts.length*3<=140737488355328
theorem Gi {L:Nat}{s:LC}{xs:List Nd}(h:w7 L s.mem s.next xs):∀ys:List Nd,(∀q∈ys,q∈xs)->∃l':List OF,(∀x∈l',x.ok/\x.sized)/\((ys.map ndC).map fun c=>c.map (AV.xA s))=l'.map qG
 | [],_=>⟨[],by simp,rfl⟩
 |q::r,hq=>by
  obtain⟨l',h1,h2⟩:=Gi h r fun b hb=>hq b (by simp[hb])
  have hm:=hq q (by simp);have hn:=h.num q hm;have hx:∃x':OF,(x'.ok/\x'.sized)/\(ndC q).map (AV.xA s)=qG x':=by
   rcases h.pc q hm with⟨nl,ps,a,e,_,h3,h4⟩|⟨t,N,c,ps,e,_,_,h3,h4,h5⟩
   ·refine⟨⟨q.1.k,q.1.a,q.1.b,q.1.c,nl,ps⟩,⟨⟨hn.1,hn.2.1,hn.2.2.1,hn.2.2.2,by dsimp only;omega,h3⟩,by unfold OF.sized;dsimp only;omega⟩,?_⟩;simp[ndC,kK,e,AV.xA,qG]
   ·refine⟨⟨q.1.k,q.1.a,q.1.b,q.1.c,false,ps⟩,⟨⟨hn.1,hn.2.1,hn.2.2.1,hn.2.2.2,by dsimp only;omega,h4⟩,by unfold OF.sized;dsimp only;omega⟩,?_⟩;have:=AE (RK ps) (nQ ps);simp only[yc]at this;simp[ndC,kK,e,AV.xA,qG,h3,this]
  obtain⟨x',h3,h4⟩:=hx;refine⟨x'::l',?_,?_⟩
  ·intro y hy;rcases yt.1 hy with rfl | hy
   ·exact h3
   ·exact h1 y hy
  ·simp only[ym,h4,h2]
def ChE2 (n:Nat)(e:Ex)(s:LC):Prop:=e=.ret/\(s.env 4).v=.ptr 4 1 0/\((n=0/\s.mem 4 1=some [⟨.sl false [],.no⟩])\/∃xs,s.mem 4 1=some [⟨.ref 13 2 5 0 n n,.no⟩]/\w7 n s.mem s.next xs)
section
variable {dn cn:Bool} {l:List OF} (hx:∀ x∈l,x.ok/\x.sized) (hl:l.length * 32<=140737488355328) {cs:List D2} (hc:∀ c∈cs,c.ok) (ge:cs.length<=9223372036854775807)
include dn cn l hx hl cs hc ge
theorem H5 (k:Ex->LC->Option RV)(r:RV)(hk:∀e s',ChE2 l.length e s'->k e s'=some r):qH.code.run (sF MC ZC) (jH MC ZC) (LC.init [.agg (TG dn l),.sl cn (cs.map pO)] none) k=some r:=by
 have ui:pD 32 0=true:=by decide
 by_cases ua:l=[]
 ·subst ua;simp[qH,TG,-J,-yb,-y9,y0,ui];refine zE 0 (fun _ s=>(s.env 1).v=.sl cn (cs.map pO)/\(s.env 4).v=.ptr 4 1 0/\(s.env 5).v=.ptr 5 2 0/\(s.env 6).v=.int .i64 0/\s.mem 4 1=some [⟨.sl true [],.ex⟩]/\s.mem 5 2=some [⟨.sl false [],.no⟩])
   (fun e s=>e=.exit 0/\(s.env 4).v=.ptr 4 1 0/\(s.env 5).v=.ptr 5 2 0/\s.mem 4 1=some [⟨.sl true [],.ex⟩]/\s.mem 5 2=some [⟨.sl false [],.no⟩]) (fun i hi s k h ih hk=>?_) _ _ ?_ (fun e s h=>?_)
  ·obtain ⟨e1,e4,e5,e6,m4,m5⟩:=h;refine wD ?_;by_cases h0:cs=[]
   ·subst h0;simp at e1;simp[jF,-J,-yb,-y9,y0,e1,e5,e6,m5];exact hk _ _ ⟨rfl,by simp[e4],by simp[e5],m4,m5⟩
   ·have h1:(0:Int)<cs.length:=by have:=List.length_pos_iff.2 h0; omega
    have h2:=List.length_pos_iff.2 h0;simp[jF,-J,-yb,-y9,y0,e1,e5,e6,m5,h1,h2];exact hk _ _ ⟨rfl,by simp[e4],by simp[e5],m4,m5⟩
  ·refine⟨?_,?_,?_,?_,?_,?_⟩<;>simp
  ·obtain⟨rfl,e4,e5,m4,m5⟩:=h;simp[-J,-yb,-y9,y0,e4,e5,m4,m5];exact hk _ _ ⟨rfl,by simp[e4],.inl ⟨by simp,by simp⟩⟩
 ·have oh:=List.length_pos_iff.2 ua;have al:(0:Int)<l.length:=by omega
  have dr:l.isEmpty=false:=by simpa using ua
  have ga:pD 32 l.length=true:=by rw[XC];omega
  have dd:kD 5 (l.map qG)=true:=nF _ _ _ fun _=>rfl
  simp[qH,TG,-J,-yb,-y9,y0,ga,dd,dr,ua];refine zE cs.length (fun i s=>∃xs,F3 cn cs l.length i xs s)
   (fun e s=>e=.exit 0/\∃xs,F3 cn cs l.length cs.length xs s) (fun i hi s k h ih hk=>?_) _ _ ?_ (fun e s h=>?_)
  ·obtain ⟨xs,h⟩:=h;by_cases ba:i<cs.length
   ·refine Lh ba ge hc oh (by omega) h k (fun s' pk c z x pc ps kk wk hT ad=>sw_ev (hc c wk) hT kk ad) (fun s' pk h'=>ih ba s' ⟨pk,h'⟩)
   ·have wh:i=cs.length:=by omega
    have fa:¬(i:Int)<cs.length:=by omega
    refine wD ?_;have e1:=h.e1;have e6:=h.e6;simp[jF,-J,-yb,-y9,y0,e1,e6,fa];rw[<- wh];refine hk _ _ ⟨rfl,xs,?_⟩;rw[<- wh];exact h.nothing (by simp) (by simp) (by simp) (by simp) (by omega)
  ·refine ⟨l.map fun x=>(x,⟨.sl x.pn (x.parts.map IG),.no⟩),⟨?_,?_,?_,?_,?_,?_,⟨by simp,?_,?_,?_,?_⟩,?_⟩⟩
   ·simp
   ·simp
   ·simp
   ·simp
   ·simp
   ·simp
   ·have:qD (l.map qG)=zD (l.map fun x=>(x,⟨.sl x.pn (x.parts.map IG),.no⟩)):=by
     unfold qD zD;rw[List.map_flatten,y9,List.flatMap_map];rfl
    simp[this]
   ·intro q hq;obtain⟨x,hxm,rfl⟩:=yD.1 hq;have:=(hx x hxm).1;exact⟨this.1,this.2.1,this.2.2.1,this.2.2.2.1⟩
   ·intro q hq;obtain⟨x,hxm,rfl⟩:=yD.1 hq;exact .inl ⟨x.pn,x.parts,.no,rfl,.inl rfl,(hx x hxm).1.2.2.2.2.2,(hx x hxm).2⟩
   ·intro j k a b N _ ha _ hNa _;rw[yk]at ha;obtain⟨x,_,rfl⟩:=yq.1 ha;simp[NY]at hNa
   ·simp
  ·obtain⟨rfl,xs,e1,e4,e5,e6,m4,m5,DA,nx⟩:=h;simp[-J,-yb,-y9,y0,e4,e5,m4,m5];refine hk _ _ ⟨rfl,by simp[e4],.inr ⟨xs,by simp,?_⟩⟩;exact⟨DA.len,by simp[DA.row],DA.num,fun q hq=>(DA.pc q hq).gC (ex:=none) (PF.set (PF.refl _ _ _) (.inr (by decide))) (by dsimp only;omega) (by simp),DA.dist⟩
theorem Q7:∃r:RV,(∃l':List OF,(∀x∈l',x.ok/\x.sized)/\l'.length=l.length/\r=(.agg (TG false l'),none))/\sF MC ZC 12 [.agg (TG dn l),.sl cn (cs.map pO)] none=some r:=by
 refine Ua Ig qH rfl rfl (F:=ChE2 l.length) (H5 hx hl hc ge) fun e s' h=>?_
 have fg:qH.res=[.cell 4 true 1]:=rfl;obtain⟨rfl,e4,⟨oe,m4⟩|⟨xs,m4,DA⟩⟩:=h
 ·exact⟨_,by simp[JJ,fg,zW,e4,m4,eD,AV.FA,AV.lA,TZ,AV.free,AV.tA,KY];rfl,[],by simp,by simp[oe],rfl⟩
 ·obtain ⟨l',h1,h2⟩:=Gi DA xs fun q hq=>hq
  have dd:kD 5 (xs.map ndC)=true:=nF _ _ _ fun _=>rfl
  have g2:=Ql (c:=l.length) dd DA.row (E8 xs) (by rw[h2];simp[qG,AV.tA]);rw[yc,DA.len,h2]at g2;have f1:AV.FA s' (.agg [.ref 13 2 5 0 l.length l.length])=.agg [.sl false (l'.map qG)]:=by simp only[AV.FA,ym,yQ,g2]
  exact⟨_,by simp[JJ,fg,zW,e4,m4,eD,f1,TZ,AV.free,AV.tA,KY,-AV.FA,-AV.lA];rfl,l',h1,by have:=congrArg List.length h2;simp only[yc]at this;rw[<- this,DA.len],rfl⟩
theorem L9:∃r:RV,(∃l':List OF,(∀x∈l',x.ok)/\r=(.agg (TG false l'),none))/\sF MC ZC 12 [.agg (TG dn l),.sl cn (cs.map pO)] none=some r:=by
 obtain⟨r,⟨l',h1,_,h2⟩,h3⟩:=Q7 (dn:=dn) (cn:=cn) hx hl hc ge;exact⟨r,⟨l',fun x hx=>(h1 x hx).1,h2⟩,h3⟩
end
end Go.Proofs.YtpmklcpajcfpjaaGreatDoor
