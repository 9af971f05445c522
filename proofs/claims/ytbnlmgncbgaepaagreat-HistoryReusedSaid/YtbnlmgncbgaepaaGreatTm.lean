/- A part of the proof. -/
import Derived.Test.YtbnlmgncbgaepaaGreatTk
import Derived.Test.YtbnlmgncbgaepaaGreatTl
set_option linter.all false
set_option maxRecDepth 100000
set_option maxHeartbeats 8000000
open Option renaming bind_some → V, map_eq_some_iff → yj, map_some → yx
open List renaming range_succ → y0, map_map → y3, getElem?_eq_getElem → y5, all_eq_true → y6, getElem_mem → y7, drop_eq_getElem_cons → y8, getElem?_map → ye, getElem?_eq_some_iff → yf, map_cons → yg, mem_cons → yh, map_nil → yk, mem_of_getElem? → yl, mem_append → yp, length_map → yq, map_congr_left → yr, mem_map → yu, length_append → yy, getElem_of_mem → yz, take_of_length_le → yC, flatten_cons → yD, length_take → yF, length_cons → yI, getElem?_append_left → yL, map_append → yM, eq_nil_of_length_eq_zero → yO, getElem?_take → yQ, getElem?_append_right → yR, getElem?_drop → yT, getElem?_eq_none → yZ
open Int renaming toNat_lt → y4, tmod_eq_emod_of_nonneg → yw, emod_nonneg → yK, emod_lt_of_pos → yN
open Nat renaming le_refl → yn, zero_add → yG
namespace Go.Proofs.YtbnlmgncbgaepaaGreat
open Go
def ZB:C:=.block 2 (oR [oS 93 (.bin .eql false (.t 67) (.c (.int .u8 0))),oM 92 93] (oD 92 (.reg [oM 94 8,oM 95 8,oK 96 95,oF 97 1 96,oL 98 97,oF 99 2 7,oLr 100 7 1 99,oS 101 (.bin .rem false (.t 100) (.c (.int .u8 5))),oB 102 .add 98 101,oS 103 (.bin .sub false (.t 102) (.c (.int .u8 2))),oK 104 94,oF 105 1 104,oW 105 103]) (oR [oS 107 (.bin .eql false (.t 67) (.c (.int .u8 1))),oM 106 107] (oD 106 (.reg [oM 108 8,oM 109 8,oK 110 109,oF 111 2 110,oL 112 111,oF 113 3 7,oLr 114 7 1 113,oS 115 (.bin .rem false (.t 114) (.c (.int .u8 5))),oB 116 .add 112 115,oS 117 (.bin .sub false (.t 116) (.c (.int .u8 2))),oK 118 108,oF 119 2 118,oW 119 117]) (oR [oS 121 (.bin .eql false (.t 67) (.c (.int .u8 2))),oM 120 121] (oD 120 (.reg [oM 122 8,oM 123 8,oK 124 123,oF 125 1 124,oL 126 125,oF 127 2 7,oLr 128 7 1 127,oS 129 (.bin .rem false (.t 128) (.c (.int .u8 6))),oS 130 (.bin .shl false (.c (.int .u8 1)) (.t 129)),oB 131 .xor 126 130,oK 132 122,oF 133 1 132,oW 133 131]) (oR [oS 135 (.bin .eql false (.t 67) (.c (.int .u8 3))),oM 134 135] (oD 134 (.reg [oM 136 8,oM 137 8,oK 138 137,oF 139 3 138,oL 140 139,oF 141 2 7,oLr 142 7 1 141,oB 143 .add 140 142,oK 144 136,oF 145 3 144,oW 145 143]) (oR [oS 147 (.bin .eql false (.t 67) (.c (.int .u8 4))),oM 146 147] (oD 146 (oR [oM 148 8,oK 149 148,oF 150 4 149,oL 151 150,oH 152 151,oC 153 .lss 152 8] (oD 153 (.reg [oM 154 8,oM 155 8,oK 156 155,oF 157 4 156,oL 158 157,oF 159 2 7,oLr 160 7 1 159,oF 161 3 7,oLr 162 7 1 161,oF 163 2 7,oLr 164 7 1 163,oS 165 (.bin .quo false (.t 164) (.c (.int .u8 12))),oS 166 (.build zzg [(0,(1,(.t 160))),(1,(1,(.t 162))),(2,(1,(.t 165)))]),oS 167 (.bsl zzg 1 [(0,(.t 166))]),oS 168 (.appm .any 165 3 3 (.t 158) (.t 167)),oK 169 154,oF 170 4 169,oW 170 168]) .skip)) (oR [oS 172 (.bin .eql false (.t 67) (.c (.int .u8 5))),oM 171 172] (oD 171 (oR [oM 173 8,oK 174 173,oF 175 4 174,oL 176 175,oH 177 176,oC 178 .gtr 177 0] (oD 178 (.reg [oM 179 8,oM 180 8,oK 181 180,oF 182 4 181,oL 183 182,oM 184 9,oS 185 (.slc false 3 (.t 183) .none (.some (.t 184)) .none),oM 186 8,oK 187 186,oF 188 4 187,oL 189 188,oM 190 9,oC 191 .add 190 1,oS 192 (.slc false 3 (.t 189) (.some (.t 191)) .none .none),oS 193 (.appm .any 165 3 3 (.t 185) (.t 192)),oK 194 179,oF 195 4 194,oW 195 193]) .skip)) (oR [oS 197 (.bin .eql false (.t 67) (.c (.int .u8 6))),oM 196 197] (oD 196 (oR [oM 198 8,oK 199 198,oF 200 4 199,oL 201 200,oH 202 201,oC 203 .gtr 202 0] (oD 203 (.reg [oM 204 8,oK 205 204,oF 206 4 205,oL 207 206,oM 208 9,oF 209 3 7,oLr 210 7 1 209,oI 211 3 207 208,oF 212 2 211,oW 212 210]) .skip)) (oR [oM 68 8,oK 69 68,oF 70 4 69,oL 71 70,oH 72 71,oC 73 .gtr 72 0] (oD 73 (.reg [oM 74 8,oK 75 74,oF 76 4 75,oL 77 76,oM 78 9,oM 79 8,oK 80 79,oF 81 4 80,oL 82 81,oM 83 9,oI 84 3 82 83,oF 85 1 84,oL 86 85,oF 87 3 7,oLr 88 7 1 87,oB 89 .add 86 88,oI 90 3 77 78,oF 91 1 90,oW 91 89]) .skip))))))))))))))))
theorem chg_L1:QC=.seq (.seq (.reg [⟨(.some 15),(.mv (.t 6)),.none⟩,⟨(.some 16),(.mv (.t 1)),.none⟩,⟨(.some 17),(.len .false (.t 16)),.none⟩,⟨(.some 18),(.bin .lss .false (.t 15) (.t 17)),.none⟩,⟨(.some 19),(.mv (.t 18)),.none⟩,⟨(.some 20),(.faddr 0 (.t 5)),(.some (19,.true))⟩,⟨(.some 21),(.load .any .false 1 (.t 20)),(.some (19,.true))⟩,⟨(.some 22),(.len .false (.t 21)),(.some (19,.true))⟩,⟨(.some 23),(.bin .gtr .false (.t 22) (.c (.int .i64 0))),(.some (19,.true))⟩,⟨(.some 24),(.pick (.t 19) (.t 23) (.c (.bool .false))),.none⟩]) (.cond (.t 24) .skip (.exit 0))) (.seq (.block 1 (.seq (.reg [⟨(.some 27),(.mv (.t 1)),.none⟩,⟨(.some 28),(.mv (.t 6)),.none⟩,⟨(.some 29),(.iaddr 4 (.t 27) (.t 28)),.none⟩,⟨(.some 30),(.load .any .true 4 (.t 29)),.none⟩,⟨(.some 7),(.alloc [(.int .u8 0),(.int .u8 0),(.int .u8 0),(.int .u8 0)]),.none⟩,⟨.none,(.store .any .true 4 (.t 7) (.t 30)),.none⟩]) (.seq (.reg [⟨(.some 31),(.faddr 0 (.t 5)),.none⟩,⟨(.some 32),(.load (.root 5) .false 1 (.t 31)),.none⟩,⟨(.some 33),(.faddr 1 (.t 7)),.none⟩,⟨(.some 34),(.load (.root 7) .false 1 (.t 33)),.none⟩,⟨(.some 35),(.conv (.some .i64) (.t 34)),.none⟩,⟨(.some 36),(.faddr 0 (.t 5)),.none⟩,⟨(.some 37),(.load (.root 5) .false 1 (.t 36)),.none⟩,⟨(.some 38),(.len .false (.t 37)),.none⟩,⟨(.some 39),(.bin .rem .false (.t 35) (.t 38)),.none⟩,⟨(.some 40),(.iaddr 5 (.t 32) (.t 39)),.none⟩,⟨(.some 8),(.mv (.t 40)),.none⟩]) (.seq (.reg [⟨(.some 41),(.mv (.t 8)),.none⟩,⟨(.some 42),(.bsl [(.int .u8 0),(.int .u8 0),(.int .u8 0)] 0 []),.none⟩,⟨(.some 43),(.mv (.t 8)),.none⟩,⟨(.some 44),(.nilchk (.t 43)),.none⟩,⟨(.some 45),(.faddr 4 (.t 44)),.none⟩,⟨(.some 46),(.load .any .false 1 (.t 45)),.none⟩,⟨(.some 47),(.appf .any 165 3 3 (.t 42) (.t 46)),.none⟩,⟨(.some 48),(.nilchk (.t 41)),.none⟩,⟨(.some 49),(.faddr 4 (.t 48)),.none⟩,⟨.none,(.store .any .false 1 (.t 49) (.t 47)),.none⟩]) (.seq (.reg [⟨(.some 9),(.mv (.c (.int .i64 0))),.none⟩]) (.seq (.seq (.reg [⟨(.some 50),(.mv (.t 8)),.none⟩,⟨(.some 51),(.nilchk (.t 50)),.none⟩,⟨(.some 52),(.faddr 4 (.t 51)),.none⟩,⟨(.some 53),(.load .any .false 1 (.t 52)),.none⟩,⟨(.some 54),(.len .false (.t 53)),.none⟩,⟨(.some 55),(.bin .gtr .false (.t 54) (.c (.int .i64 0))),.none⟩]) (.cond (.t 55) (.reg [⟨(.some 56),(.faddr 2 (.t 7)),.none⟩,⟨(.some 57),(.load (.root 7) .false 1 (.t 56)),.none⟩,⟨(.some 58),(.conv (.some .i64) (.t 57)),.none⟩,⟨(.some 59),(.mv (.t 8)),.none⟩,⟨(.some 60),(.nilchk (.t 59)),.none⟩,⟨(.some 61),(.faddr 4 (.t 60)),.none⟩,⟨(.some 62),(.load .any .false 1 (.t 61)),.none⟩,⟨(.some 63),(.len .false (.t 62)),.none⟩,⟨(.some 64),(.bin .rem .false (.t 58) (.t 63)),.none⟩,⟨(.some 9),(.mv (.t 64)),.none⟩]) .skip)) (.seq (.reg [⟨(.some 65),(.faddr 0 (.t 7)),.none⟩,⟨(.some 66),(.load .any .false 1 (.t 65)),.none⟩,⟨(.some 67),(.bin .rem .false (.t 66) (.c (.int .u8 8))),.none⟩]) ZB))))))) (.reg [⟨(.some 25),(.mv (.t 6)),.none⟩,⟨(.some 26),(.bin .add .false (.t 25) (.c (.int .i64 1))),.none⟩,⟨(.some 6),(.mv (.t 26)),.none⟩])):=rfl
structure d3 where
 kind:Int
 node:Int
 a:Int
 b:Int
def aZ (c:d3):List AV:=[.int .u8 c.kind,.int .u8 c.node,.int .u8 c.a,.int .u8 c.b]
def d3.ok (c:d3):Prop:=u8 c.kind/\u8 c.node/\u8 c.a/\u8 c.b
def sK (c:d3):List wA:=[⟨.int .u8 c.kind,.no⟩,⟨.int .u8 c.node,.no⟩,⟨.int .u8 c.a,.no⟩,⟨.int .u8 c.b,.no⟩]
abbrev Nd:=jC × wA
def wI (q:Nd):List wA:=[⟨.int .u8 q.1.k,.no⟩,⟨.int .u8 q.1.a,.no⟩,⟨.int .u8 q.1.b,.no⟩,⟨.int .u8 q.1.c,.no⟩,q.2]
def OA (xs:List Nd):List wA:=xs.flatMap wI
theorem XR:∀ xs:List Nd,(OA xs).length=xs.length * 5
 | []=>rfl
 | q :: r=>by
  have:=XR r;unfold OA at this ⊢;rw [List.flatMap_cons,yy,this,yI];simp [wI];omega
section
variable {xs:List Nd} {z:Nat}
include xs z
theorem hO {q:Nd} (h:xs[z]?=some q):OA xs=OA (xs.take z)++(wI q++OA (xs.drop (z + 1)))/\(OA (xs.take z)).length=z * 5:=by
 obtain ⟨hz,rfl⟩:=yf.1 h;refine ⟨?_,by rw [XR,yF]; omega⟩;have e:xs=xs.take z++(xs[z] :: xs.drop (z + 1)):=by rw [<- y8 hz,List.take_append_drop]
 refine (congrArg OA e).trans ?_;unfold OA;rw [List.flatMap_append,List.flatMap_cons]
theorem AE {q:Nd} (h:xs[z]?=some q) (o:Nat) (ho:o<5):(OA xs)[z * 5 + o]?=(wI q)[o]?:=by
 obtain ⟨h1,h2⟩:=hO h;rw [h1,yR (by omega),h2,Nat.add_sub_cancel_left,yL (by simp [wI]; omega)]
theorem ndsRow_set {q q':Nd} (h:xs[z]?=some q) (o:Nat) (ho:o<5) (y:wA) (hq:(wI q).set o y=wI q'):(OA xs).set (z * 5 + o) y=OA (xs.set z q'):=by
 obtain ⟨h1,h2⟩:=hO h;have hz:=(yf.1 h).1;have h':(xs.set z q')[z]?=some q':=List.getElem?_set_self hz;obtain ⟨g1,g2⟩:=hO h';rw [h1,g1,List.set_append_right _ _ (by omega),h2,Nat.add_sub_cancel_left,List.set_append_left _ _ (by simp [wI]; omega),hq];rw [List.take_set_of_le (yn z),List.drop_set_of_lt (Nat.lt_succ_self z)]
theorem mE {q q':Nd} (h:xs[z]?=some q) (o:Nat) (ho:o<5) (v:AV) (a:An) (hv:v.leaf=true) (hq:(wI q).set o ⟨v,a⟩=wI q'):EA false 1 (z * 5 + o) (OA xs) v a=some (OA (xs.set z q')):=by
 have hz:=(yf.1 h).1;have hl:=XR xs;simp only [EA,hv];rw [<- ndsRow_set h o ho _ hq];simp;omega
end
def IW (x:wA):Option Nat:=match x.v with
 | .ref _ M _ _ _ _=>some M
 | _=>none
def PcI (M:Nat->Nat->Option (List wA)) (n:Nat) (x:wA):Prop :=
 (∃ (nl:Bool) (ps:List dQ) (a:An),x=⟨.sl nl (ps.map HD),a⟩/\(a=.no\/a=.ex)/\(∀ p∈ps,p.ok)/\ps.length * 3<=140737488355328) ∨
 ∃ (t N c:Nat) (ps:List dQ),x=⟨.ref t N 3 0 ps.length c,.no⟩/\(t=47\/t=168\/t=193)/\N<n/\M t N=some (xA (ps.map HD))/\(∀ p∈ps,p.ok)/\ps.length * 3<=140737488355328
def NC (n:Nat) (ex:Option Nat) (M M':Nat->Nat->Option (List wA)):Prop:=∀ (t N:Nat) (ps:List dQ),(t=47\/t=168\/t=193)->N<n->some N≠ex->M t N=some (xA (ps.map HD))->M' t N=some (xA (ps.map HD))
theorem NC.refl (n:Nat) (ex:Option Nat) (M:Nat->Nat->Option (List wA)):NC n ex M M:=fun _ _ _ _ _ _ h=>h
theorem NC.set {n:Nat} {ex:Option Nat} {M M':Nat->Nat->Option (List wA)} (h:NC n ex M M') {t' n':Nat} {r:List wA} (hn:n<=n'\/¬ (t'=47\/t'=168\/t'=193)):NC n ex M (FZ M' t' n' r):=fun t N ps ht hN hx hm=>by
 rw [wB,if_neg]
 ·exact h t N ps ht hN hx hm
 ·rintro ⟨rfl,rfl⟩;rcases hn with hn | hn
  ·omega
  ·exact hn ht
theorem LN (ps:List dQ):XD (ps.map HD)=true:=tN HD ps fun p=>by simp [HD,AV.free0]
theorem WI (ps:List dQ):lB 3 (ps.map HD)=true:=lC _ _ _ fun _=>rfl
theorem NC.kill {n:Nat} {ex:Option Nat} {M M':Nat->Nat->Option (List wA)} (h:NC n ex M M') {t' n':Nat} (hn:ex=some n'):NC n ex M (O1 t' n' M'):=fun t N ps ht hN hx hm=>by
 rw [dB,if_neg,h t N ps ht hN hx hm]
 ·simp only [yx,FY (LN ps)]
 ·rintro ⟨rfl,rfl⟩;exact hx hn.symm
theorem PcI.pres {M M':Nat->Nat->Option (List wA)} {n n':Nat} {x:wA} (h:PcI M n x) {ex:Option Nat} (hp:NC n ex M M') (hn:n<=n') (hx:∀ N,IW x=some N->some N≠ex):PcI M' n' x:=by
 rcases h with h | ⟨t,N,c,ps,rfl,h1,h2,h3,h4,h5⟩
 ·exact .inl h
 ·exact .inr ⟨t,N,c,ps,rfl,h1,by omega,hp t N ps h1 h2 (hx N rfl) h3,h4,h5⟩
structure p5 (L:Nat) (M:Nat->Nat->Option (List wA)) (n:Nat) (xs:List Nd):Prop where
 len:xs.length=L
 row:M 13 2=some (OA xs)
 num:∀ q∈xs,u8 q.1.k/\u8 q.1.a/\u8 q.1.b/\u8 q.1.c
 pc:∀ q∈xs,PcI M n q.2
 dist:∀ (j k:Nat) (a b:Nd) (N:Nat),j≠k->xs[j]?=some a->xs[k]?=some b->IW a.2=some N->IW b.2=some N->False
theorem p5.upd {L:Nat} {M M':Nat->Nat->Option (List wA)} {n n':Nat} {xs:List Nd} (h:p5 L M n xs) {z:Nat} {q q':Nd} (hz:xs[z]?=some q) (ka:M' 13 2=some (OA (xs.set z q'))) (nc:u8 q'.1.k/\u8 q'.1.a/\u8 q'.1.b/\u8 q'.1.c) (jf:PcI M' n' q'.2) (hp:NC n (IW q.2) M M') (hn:n<=n') (sb:IW q'.2=IW q.2\/∀ N,IW q'.2=some N->n<=N):p5 L M' n' (xs.set z q'):=by
 have wn:=(yf.1 hz).1;have hother:∀ (k:Nat) (b:Nd),k≠z->xs[k]?=some b->PcI M' n' b.2:=fun k b hk hb=>(h.pc b (yl hb)).pres hp hn fun N hN e=>h.dist k z b q N hk hb hz hN e.symm
 have uh:∀ (k:Nat) (b:Nd),(xs.set z q')[k]?=some b->(k=z/\b=q')\/(k≠z/\xs[k]?=some b):=fun k b hb=>by
  rw [List.getElem?_set] at hb;by_cases e:z=k
  ·rw [if_pos e,if_pos wn] at hb;injection hb with hb;exact .inl ⟨e.symm,hb.symm⟩
  ·rw [if_neg e] at hb;exact .inr ⟨fun h=>e h.symm,hb⟩
 have pe:∀ (b:Nd) (N:Nat),b∈xs->IW b.2=some N->N<n:=fun b N hb hN=>by
  rcases h.pc b hb with ⟨nl,ps,a,e,_⟩ | ⟨t,N',c,ps,e,_,h2,_⟩
  ·rw [e] at hN; simp [IW] at hN
  ·rw [e] at hN; simp [IW] at hN; omega
 refine ⟨by simp [h.len],ka,fun b hb=>?_,fun b hb=>?_,fun j k a b N hjk ha hb dy hNb=>?_⟩
 ·obtain ⟨k,hk,rfl⟩:=yz hb;rcases uh k _ (y5 hk) with ⟨_,e⟩ | ⟨_,e⟩
  ·rw [e]; exact nc
  ·exact h.num _ (yl e)
 ·obtain ⟨k,hk,rfl⟩:=yz hb;rcases uh k _ (y5 hk) with ⟨_,e⟩ | ⟨uc,e⟩
  ·rw [e]; exact jf
  ·exact hother k _ uc e
 ·rcases uh j a ha with ⟨hj,rfl⟩ | ⟨hj,lu⟩
  ·rcases uh k b hb with ⟨hk,rfl⟩ | ⟨hk,ta⟩
   ·omega
   ·rcases sb with e | e
    ·exact h.dist z k q b N (by omega) hz ta (by rw [<- e]; exact dy) hNb
    ·have:=e N dy;have:=pe b N (yl ta) hNb;omega
  ·rcases uh k b hb with ⟨hk,rfl⟩ | ⟨hk,ta⟩
   ·rcases sb with e | e
    ·exact h.dist j z a q N (by omega) lu hz dy (by rw [<- e]; exact hNb)
    ·have:=e N hNb;have:=pe a N (yl lu) dy;omega
   ·exact h.dist j k a b N hjk lu ta dy hNb
theorem PV {L:Nat} {M:Nat->Nat->Option (List wA)} {n:Nat} {xs:List Nd} (h:p5 L M n xs) {z:Nat} {q:Nd} (hz:xs[z]?=some q) {t N:Nat} (hN:IW q.2=some N):(OA xs).map (wA.kill t N)=OA (xs.set z (q.1,q.2.kill t N)):=by
 have wn:=(yf.1 hz).1;have e1:xs.map (fun b:Nd=>((b.1,b.2.kill t N):Nd))=xs.set z (q.1,q.2.kill t N):=by
  refine List.ext_getElem? fun k=>?_
  rw [ye,List.getElem?_set];by_cases e:z=k
  ·subst e;rw [if_pos rfl,if_pos wn,hz];rfl
  ·rw [if_neg e];cases hk:xs[k]? with
   | none=>rfl
   | some b =>
    have hb:b.2.kill t N=b.2:=by
     rcases h.pc b (yl hk) with ⟨nl,ps,a,e',_⟩ | ⟨t',N',c,ps,e',_⟩
     ·rw [e'];show (⟨AV.kill t N (.sl nl (ps.map HD)),a⟩:wA)=_;rfl
     ·have la:N'≠N:=fun e2=>h.dist k z b q N (fun e3=>e e3.symm) hk hz (by rw [e',e2]; rfl) hN
      rw [e'];simp [wA.kill_mk,AV.kill,AV.kill0,la]
    simp only [yx,hb]
 rw [<- e1];unfold OA;rw [List.map_flatMap,List.flatMap_map];congr 1
structure KZ (cn:Bool) (cs:List d3) (L i:Nat) (xs:List Nd) (s:pA):Prop where
 e1:(s.env 1).v=.sl cn (cs.map aZ)
 e4:(s.env 4).v=.ptr 4 1 0
 e5:(s.env 5).v=.ptr 5 2 0
 e6:(s.env 6).v=.int .i64 i
 m4:s.mem 4 1=some [⟨.sl true [],.ex⟩]
 m5:s.mem 5 2=some [⟨.ref 13 2 5 0 L L,.no⟩]
 nds:p5 L s.mem s.next xs
 nx:2<s.next
def OwnP (s:pA) (ps:List dQ) (pc:wA):Prop:=(ps=[]/\pc=⟨.sl false [],.ex⟩)\/(ps≠[]/\∃ N,pc=⟨.ref 47 N 3 0 ps.length ps.length,.no⟩/\N<s.next/\s.mem 47 N=some (xA (ps.map HD)))
structure ChT (cn:Bool) (cs:List d3) (L i:Nat) (xs:List Nd) (c:d3) (z:Nat) (x:jC) (pc:wA) (ps:List dQ) (s:pA):Prop where
 ch:KZ cn cs L i xs s
 e7:∃ n7,(s.env 7).v=.ptr 7 n7 0/\s.mem 7 n7=some (sK c)
 e8:(s.env 8).v=.ptr 13 2 (z * 5)
 e9:∃ kk:Nat,(s.env 9).v=.int .i64 kk/\(ps≠[]->kk<ps.length)
 e67:(s.env 67).v=.int .u8 (c.kind % 8)
 hz:xs[z]?=some (x,pc)
 pcs:OwnP s ps pc
 ok:∀ p∈ps,p.ok
 sz:ps.length * 3<=140737488355328
theorem chg_head {r:RV} {cn:Bool} {cs:List d3} {L i:Nat} (hi:i<cs.length) (dd:cs.length<=9223372036854775807) (na:∀ c∈cs,c.ok) (hL0:0<L) (hL1:L<=140737488355328) {xs:List Nd} {s:pA} (h:KZ cn cs L i xs s) (k:Ex->pA->Option RV)
  (hk:∀ s' gj c z x pc ps (kk:Ex->pA->Option RV),c∈cs->ChT cn cs L i gj c z x pc ps s'->(∀ s2 zg,KZ cn cs L i zg s2->kk .nrm s2=some r)->ZB.run (cE dA eA) (BJ dA eA) s' kk=some r)
  (ih:∀ s' gj,KZ cn cs L (i + 1) gj s'->GG dA eA QC s' k=some r):GG dA eA QC s k=some r:=by
 obtain ⟨e1,e4,e5,e6,m4,m5,nds,nx⟩:=h;refine tA ?_;have ga:(i:Int)<cs.length:=by omega
 have g1:(cs.map aZ)[i]?=some (aZ cs[i]):=by simp [hi]
 have mg:=GA (i:=i);have xq:=y7 hi;have hco:=na _ xq;generalize cs[i]=c at *
 obtain ⟨⟨k1,k2⟩,⟨n1,n2⟩,⟨a1,a2⟩,b1,b2⟩:=hco;simp only [aZ] at g1;have fq:IntKind.i64.wrap c.node=c.node:=IntWalk.i64_in _ (by omega);have hwa:IntKind.i64.wrap c.a=c.a:=IntWalk.i64_in _ (by omega);have hm:c.node.tmod L=c.node % L:=yw (by omega);have gc:=yK c.node (b:=(L:Int)) (by omega);have tn:=yN c.node (b:=(L:Int)) (by omega);have h8:c.kind.tmod 8=c.kind % 8:=yw (by omega);have hLi:(0:Int)<L:=by omega
 have hLn:¬ L=0:=by omega
 generalize c.node % (L:Int)=zz at *
 have wn:zz.toNat<xs.length:=by rw [nds.len]; omega
 obtain ⟨q,hq⟩:∃ q,xs[zz.toNat]?=some q:=⟨_,y5 wn⟩;obtain ⟨x,pc⟩:=q;have nc:=nds.num _ (yl hq);have g46:(OA xs)[zz.toNat * 5 + 4]?=some pc:=AE hq 4 (by omega);have cont:∀ (s2:pA) (zg:List Nd) (E:Nat->wA),KZ cn cs L i zg s2->s2.env=E->KZ cn cs L (i + 1) zg ⟨putE (putE (putE E 25 ⟨.int .i64 i,(E 6).a⟩) 26 ⟨.int .i64 ((i + 1:Nat):Int),.no⟩) 6 ⟨.int .i64 ((i + 1:Nat):Int),.no⟩,s2.mem,s2.next + 1,s2.obj,s2.gh⟩:=fun s2 zg E h he=>by
  subst he;obtain ⟨e1,e4,e5,e6,m4,m5,nds,nx⟩:=h;exact ⟨by simp [e1],by simp [e4],by simp [e5],by simp,m4,m5,⟨nds.len,nds.row,nds.num,fun q hq=>(nds.pc q hq).pres (ex:=none) (NC.refl _ _ _) (by dsimp only; omega) (by simp),nds.dist⟩,by dsimp only; omega⟩
 have uO:∀ (s':pA) (gj:List Nd) (pc':wA) (ps:List dQ),ChT cn cs L i gj c zz.toNat x pc' ps s'->ZB.run (cE dA eA) (BJ dA eA) s' (blkK 1 (seqK (cE dA eA) (BJ dA eA) (.reg [⟨some 25,.mv (.t 6),none⟩,⟨some 26,.bin .add false (.t 25) (.c (.int .i64 1)),none⟩,⟨some 6,.mv (.t 26),none⟩]) (HJ (GG dA eA) QC k)))=some r:=fun s' gj pc' ps hT=>by
  refine hk s' gj c _ x pc' ps _ xq hT (fun s2 zg h2=>?_);have e6:=h2.e6;simp [-V,-y4,-y3,y0,e6,mg];exact ih _ _ (cont s2 zg _ h2 rfl)
 rw [chg_L1];have jf:=nds.pc _ (yl hq);have kp:∃ ps:List dQ,(∀ p∈ps,p.ok)/\ps.length * 3<=140737488355328/\((∃ nl a,pc=⟨.sl nl (ps.map HD),a⟩)\/∃ t N c0,pc=⟨.ref t N 3 0 ps.length c0,.no⟩/\(t=47\/t=168\/t=193)/\N<s.next/\s.mem t N=some (xA (ps.map HD))):=by
  rcases jf with ⟨nl,ps,a,h1,_,h3,h4⟩ | ⟨t,N,c0,ps,h1,h2,h3,h4,h5,h6⟩
  ·exact ⟨ps,h3,h4,.inl ⟨nl,a,h1⟩⟩
  ·exact ⟨ps,h5,h6,.inr ⟨t,N,c0,h1,h2,h3,h4⟩⟩
 obtain ⟨ps,ol,hps,zw⟩:=kp;have zf:=nds.row;have mw:=mE (q':=(x,⟨.sl false [],.ex⟩)) hq 4 (by omega) (.sl false []) .ex rfl rfl;have lg:∀ n,EA false 1 (zz.toNat * 5 + 4) (OA xs) (.ref 47 n 3 0 ps.length ps.length) .no=some (OA (xs.set zz.toNat (x,⟨.ref 47 n 3 0 ps.length ps.length,.no⟩))):=fun n=>mE hq 4 (by omega) _ .no rfl rfl
 have hgz:∀ y,(xs.set zz.toNat (x,y))[zz.toNat]?=some (x,y):=fun y=>List.getElem?_set_self wn
 have hg0:=AE (hgz ⟨.sl false [],.ex⟩) 4 (by omega);have hg1:∀ n,(OA (xs.set zz.toNat (x,⟨.ref 47 n 3 0 ps.length ps.length,.no⟩)))[zz.toNat * 5 + 4]?=some ⟨.ref 47 n 3 0 ps.length ps.length,.no⟩:=fun n=>AE (hgz _) 4 (by omega)
 have hg0':(OA (xs.set zz.toNat (x,⟨.sl false [],.ex⟩)))[zz.toNat * 5 + 4]?=some ⟨.sl false [],.ex⟩:=hg0;clear hg0;have ja:kB 3 ps.length=true:=by rw [PA]; omega
 have jg:kB 3 0=true:=by decide
 have zj:DE (xA (ps.map HD)) 3 0 ps.length=some (ps.map HD):=by
  have:=cK (WI ps) (LN ps);simpa using this
 have q3:=WI ps;have fr:∀ (n':Nat) (M':Nat->Nat->Option (List wA)) (y:wA),PcI M' n' y->NC s.next (IW pc) s.mem M'->s.next<=n'->M' 13 2=some (OA (xs.set zz.toNat (x,y)))->(IW y=IW pc\/∀ N,IW y=some N->s.next<=N)->p5 L M' n' (xs.set zz.toNat (x,y)):=fun n' M' y h1 h2 h3 h4 h5=>nds.upd hq h4 nc h1 h2 h3 h5
 by_cases la:ps=[]
 ·have hpc0:∀ M' n',PcI M' n' ⟨.sl false [],.ex⟩:=fun M' n'=>.inl ⟨false,[],.ex,rfl,.inr rfl,by simp,by simp⟩
  rcases zw with ⟨nl,a,rfl⟩ | ⟨t,N,c0,rfl,ht,hN,ml⟩
  ·subst la;simp at g46;generalize sj:OA xs=R0 at *
   generalize rg:OA (xs.set zz.toNat (x,⟨.sl false [],.ex⟩))=R1 at *
   simp [-V,-y4,-y3,y0,-jB,-EA,cB,WB,ZA,XA,e1,e4,e5,e6,m4,m5,zf,ga,g1,hLi,hLn,hL0,fq,hm,gc,tn,h8,g46,mg,mw,hg0',jg];refine uO _ (xs.set zz.toNat (x,⟨.sl false [],.ex⟩)) ⟨.sl false [],.ex⟩ [] ⟨⟨?_,?_,?_,?_,?_,?_,fr _ _ _ ?_ ?_ ?_ ?_ ?_,?_⟩,⟨s.next + 1,?_,?_⟩,?_,⟨0,?_,?_⟩,?_,hgz _,.inl ⟨rfl,rfl⟩,ol,hps⟩
   ·simp [e1]
   ·simp [e4]
   ·simp [e5]
   ·simp [e6]
   ·simp [m4]
   ·simp [m5]
   ·exact hpc0 _ _
   ·dsimp only
    repeat (first | exact NC.refl _ _ _ | refine NC.set ?_ (.inr (by decide)) | refine NC.set ?_ (.inl (by omega)))
   ·dsimp only; omega
   ·simp [rg]
   ·right;intro N hN;simp [IW] at hN
    try omega
   ·dsimp only; omega
   ·simp
   ·simp [sK]
   ·simp
   ·simp
   ·first | (intro _; omega) | simp
   ·simp
  ·subst la;simp at g46 ml zj;generalize sj:OA xs=R0 at *
   generalize rg:OA (xs.set zz.toNat (x,⟨.sl false [],.ex⟩))=R1 at *
   have h7:¬ t=7:=by omega
   simp [-V,-y4,-y3,y0,-jB,-EA,cB,WB,ZA,XA,e1,e4,e5,e6,m4,m5,zf,ga,g1,hLi,hLn,hL0,fq,hm,gc,tn,h8,g46,mg,mw,hg0',jg,ml,zj,Cl.okMem,h7];refine uO _ (xs.set zz.toNat (x,⟨.sl false [],.ex⟩)) ⟨.sl false [],.ex⟩ [] ⟨⟨?_,?_,?_,?_,?_,?_,fr _ _ _ ?_ ?_ ?_ ?_ ?_,?_⟩,⟨s.next + 1,?_,?_⟩,?_,⟨0,?_,?_⟩,?_,hgz _,.inl ⟨rfl,rfl⟩,ol,hps⟩
   ·simp [e1]
   ·simp [e4]
   ·simp [e5]
   ·simp [e6]
   ·simp [m4]
   ·simp [m5]
   ·exact hpc0 _ _
   ·dsimp only
    repeat (first | exact NC.refl _ _ _ | refine NC.set ?_ (.inr (by decide)) | refine NC.set ?_ (.inl (by omega)))
   ·dsimp only; omega
   ·simp [rg]
   ·right;intro N hN;simp [IW] at hN
    try omega
   ·dsimp only; omega
   ·simp
   ·simp [sK]
   ·simp
   ·simp
   ·first | (intro _; omega) | simp
   ·simp
 ·have bg:ps.isEmpty=false:=by simpa using la
  have dh:0<ps.length:=List.length_pos_iff.2 la;have zh:(0:Int)<ps.length:=by omega
  have rz:¬ ps.length=0:=by omega
  have hma:c.a.tmod ps.length=c.a % ps.length:=yw (by omega);have wg:=yK c.a (b:=(ps.length:Int)) (by omega);have wb:=yN c.a (b:=(ps.length:Int)) (by omega);obtain ⟨kk,rb⟩:∃ kk:Nat,c.a % (ps.length:Int)=kk:=⟨(c.a % (ps.length:Int)).toNat,by omega⟩;rw [rb] at hma wb;obtain ⟨R1,ay⟩:∃ R1:Nat->List wA,∀ n,OA (xs.set zz.toNat (x,⟨.ref 47 n 3 0 ps.length ps.length,.no⟩))=R1 n:=⟨_,fun n=>rfl⟩;simp only [ay] at lg hg1;rcases zw with ⟨nl,a,rfl⟩ | ⟨t,N,c0,rfl,ht,hN,ml⟩
  ·generalize sj:OA xs=R0 at *
   simp [-V,-y4,-y3,y0,-jB,-EA,cB,WB,ZA,XA,e1,e4,e5,e6,m4,m5,zf,ga,g1,hLi,hLn,hL0,fq,hm,gc,tn,h8,g46,mg,lg,hg1,ja,q3,bg,la,dh,zh,rz,hwa,hma];refine uO _ (xs.set zz.toNat (x,⟨.ref 47 (s.next + 3) 3 0 ps.length ps.length,.no⟩)) ⟨.ref 47 (s.next + 3) 3 0 ps.length ps.length,.no⟩ ps ⟨⟨?_,?_,?_,?_,?_,?_,fr _ _ _ ?_ ?_ ?_ ?_ ?_,?_⟩,⟨s.next + 1,?_,?_⟩,?_,⟨kk,?_,?_⟩,?_,hgz _,.inr ⟨la,s.next + 3,rfl,by dsimp only; omega,by simp⟩,ol,hps⟩
   ·simp [e1]
   ·simp [e4]
   ·simp [e5]
   ·simp [e6]
   ·simp [m4]
   ·simp [m5]
   ·exact .inr ⟨47,s.next + 3,ps.length,ps,rfl,.inl rfl,by dsimp only; omega,by simp,ol,hps⟩
   ·dsimp only
    repeat (first | exact NC.refl _ _ _ | refine NC.set ?_ (.inr (by decide)) | refine NC.set ?_ (.inl (by omega)))
   ·dsimp only; omega
   ·simp [<- ay]
   ·right;intro N hN;simp [IW] at hN
    try omega
   ·dsimp only; omega
   ·simp
   ·simp [sK]
   ·simp
   ·simp
   ·first | (intro _; omega) | simp
   ·simp
  ·generalize sj:OA xs=R0 at *
   have h7:¬ t=7:=by omega
   simp [-V,-y4,-y3,y0,-jB,-EA,cB,WB,ZA,XA,e1,e4,e5,e6,m4,m5,zf,ga,g1,hLi,hLn,hL0,fq,hm,gc,tn,h8,g46,mg,lg,hg1,ja,q3,bg,la,dh,zh,rz,hwa,hma,ml,zj,Cl.okMem,h7];refine uO _ (xs.set zz.toNat (x,⟨.ref 47 (s.next + 3) 3 0 ps.length ps.length,.no⟩)) ⟨.ref 47 (s.next + 3) 3 0 ps.length ps.length,.no⟩ ps ⟨⟨?_,?_,?_,?_,?_,?_,fr _ _ _ ?_ ?_ ?_ ?_ ?_,?_⟩,⟨s.next + 1,?_,?_⟩,?_,⟨kk,?_,?_⟩,?_,hgz _,.inr ⟨la,s.next + 3,rfl,by dsimp only; omega,by simp⟩,ol,hps⟩
   ·simp [e1]
   ·simp [e4]
   ·simp [e5]
   ·simp [e6]
   ·simp [m4]
   ·simp [m5]
   ·exact .inr ⟨47,s.next + 3,ps.length,ps,rfl,.inl rfl,by dsimp only; omega,by simp,ol,hps⟩
   ·dsimp only
    repeat (first | exact NC.refl _ _ _ | refine NC.set ?_ (.inr (by decide)) | refine NC.set ?_ (.inl (by omega)))
   ·dsimp only; omega
   ·simp [<- ay]
   ·right;intro N hN;simp [IW] at hN
    try omega
   ·dsimp only; omega
   ·simp
   ·simp [sK]
   ·simp
   ·simp
   ·first | (intro _; omega) | simp
   ·simp
section
theorem u8w (z:Int):u8 (IntKind.u8.wrap z):=by
 simp only [IntKind.wrap,IntKind.bits,IntKind.signed,u8];simp;omega
theorem H9 {α:Type} {xs:List α} {z:Nat} {q:α} (h:xs[z]?=some q):xs.set z q=xs:=by
 obtain ⟨hz,rfl⟩:=yf.1 h;exact List.set_getElem_self hz
theorem OwnP.pci {s:pA} {ps:List dQ} {pc:wA} (h:OwnP s ps pc) (ho:∀ p∈ps,p.ok) (hs:ps.length * 3<=140737488355328):PcI s.mem s.next pc:=by
 rcases h with ⟨rfl,rfl⟩ | ⟨_,N,rfl,h2,h3⟩
 ·exact .inl ⟨false,[],.ex,rfl,.inr rfl,by simp,by simp⟩
 ·exact .inr ⟨47,N,_,ps,rfl,.inl rfl,h2,h3,ho,hs⟩
section
variable {r:RV} {cn:Bool} {cs:List d3} {L i:Nat} {xs:List Nd} {c:d3} {z:Nat} {x:jC} {pc:wA} {ps:List dQ} {s:pA}
theorem sw0 (hc:c.ok) (hm:c.kind % 8=0) (h:ChT cn cs L i xs c z x pc ps s) (k:Ex->pA->Option RV) (hk:∀ s2 zg,KZ cn cs L i zg s2->k .nrm s2=some r):ZB.run (cE dA eA) (BJ dA eA) s k=some r:=by
 obtain ⟨⟨e1,e4,e5,e6,m4,m5,nds,nx⟩,⟨n7,e7,m7⟩,e8,⟨kk,e9,rb⟩,e67,hz,pcs,ok,sz⟩:=h;rw [hm] at e67;have nc:=nds.num _ (yl hz);have zf:=nds.row;have g:=AE hz 1 (by omega);have pb:∀ v,EA false 1 (z * 5 + 1) (OA xs) (.int .u8 v) .no=some (OA (xs.set z ({ x with a:=v },pc))):=fun v=>mE hz 1 (by omega) _ .no rfl rfl
 obtain ⟨R1,rg⟩:∃ R1:Int->List wA,∀ v,OA (xs.set z ({ x with a:=v },pc))=R1 v:=⟨_,fun v=>rfl⟩;simp only [rg] at pb;simp only [wI] at g;simp at g;generalize sj:OA xs=R0 at *
 simp only [sK] at m7;have h7:∀ n,¬ (7=13/\n=2):=by simp
 simp [ZB,-V,-y4,-y3,y0,-jB,-EA,cB,WB,ZA,XA,e7,m7,e8,e67,zf,g,pb];refine hk _ (xs.set z ({ x with a:=IntKind.u8.wrap (IntKind.u8.wrap (x.a + c.a.tmod 5) - 2) },pc)) ⟨?_,?_,?_,?_,?_,?_,nds.upd hz ?_ ⟨nc.1,u8w _,nc.2.2⟩ ?_ ?_ ?_ (.inl rfl),?_⟩
 ·simp [e1]
 ·simp [e4]
 ·simp [e5]
 ·simp [e6]
 ·simp [m4]
 ·simp [m5]
 ·simp [rg]
 ·refine (pcs.pci ok sz).pres (ex:=none) ?_ (by dsimp only; omega) (by simp);exact NC.set (NC.refl _ _ _) (.inr (by decide))
 ·exact NC.set (NC.refl _ _ _) (.inr (by decide))
 ·dsimp only; omega
 ·dsimp only; omega
theorem sw1 (hc:c.ok) (hm:c.kind % 8=1) (h:ChT cn cs L i xs c z x pc ps s) (k:Ex->pA->Option RV) (hk:∀ s2 zg,KZ cn cs L i zg s2->k .nrm s2=some r):ZB.run (cE dA eA) (BJ dA eA) s k=some r:=by
 obtain ⟨⟨e1,e4,e5,e6,m4,m5,nds,nx⟩,⟨n7,e7,m7⟩,e8,⟨kk,e9,rb⟩,e67,hz,pcs,ok,sz⟩:=h;rw [hm] at e67;have nc:=nds.num _ (yl hz);have zf:=nds.row;have g:=AE hz 2 (by omega);have pb:∀ v,EA false 1 (z * 5 + 2) (OA xs) (.int .u8 v) .no=some (OA (xs.set z ({ x with b:=v },pc))):=fun v=>mE hz 2 (by omega) _ .no rfl rfl
 obtain ⟨R1,rg⟩:∃ R1:Int->List wA,∀ v,OA (xs.set z ({ x with b:=v },pc))=R1 v:=⟨_,fun v=>rfl⟩;simp only [rg] at pb;simp only [wI] at g;simp at g;generalize sj:OA xs=R0 at *
 simp only [sK] at m7;have h7:∀ n,¬ (7=13/\n=2):=by simp
 simp [ZB,-V,-y4,-y3,y0,-jB,-EA,cB,WB,ZA,XA,e7,m7,e8,e67,zf,g,pb];refine hk _ (xs.set z ({ x with b:=IntKind.u8.wrap (IntKind.u8.wrap (x.b + c.b.tmod 5) - 2) },pc)) ⟨?_,?_,?_,?_,?_,?_,nds.upd hz ?_ ⟨nc.1,nc.2.1,u8w _,nc.2.2.2⟩ ?_ ?_ ?_ (.inl rfl),?_⟩
 ·simp [e1]
 ·simp [e4]
 ·simp [e5]
 ·simp [e6]
 ·simp [m4]
 ·simp [m5]
 ·simp [rg]
 ·refine (pcs.pci ok sz).pres (ex:=none) ?_ (by dsimp only; omega) (by simp);exact NC.set (NC.refl _ _ _) (.inr (by decide))
 ·exact NC.set (NC.refl _ _ _) (.inr (by decide))
 ·dsimp only; omega
 ·dsimp only; omega
theorem sw3 (hc:c.ok) (hm:c.kind % 8=3) (h:ChT cn cs L i xs c z x pc ps s) (k:Ex->pA->Option RV) (hk:∀ s2 zg,KZ cn cs L i zg s2->k .nrm s2=some r):ZB.run (cE dA eA) (BJ dA eA) s k=some r:=by
 obtain ⟨⟨e1,e4,e5,e6,m4,m5,nds,nx⟩,⟨n7,e7,m7⟩,e8,⟨kk,e9,rb⟩,e67,hz,pcs,ok,sz⟩:=h;rw [hm] at e67;have nc:=nds.num _ (yl hz);have zf:=nds.row;have g:=AE hz 3 (by omega);have pb:∀ v,EA false 1 (z * 5 + 3) (OA xs) (.int .u8 v) .no=some (OA (xs.set z ({ x with c:=v },pc))):=fun v=>mE hz 3 (by omega) _ .no rfl rfl
 obtain ⟨R1,rg⟩:∃ R1:Int->List wA,∀ v,OA (xs.set z ({ x with c:=v },pc))=R1 v:=⟨_,fun v=>rfl⟩;simp only [rg] at pb;simp only [wI] at g;simp at g;generalize sj:OA xs=R0 at *
 simp only [sK] at m7;have h7:∀ n,¬ (7=13/\n=2):=by simp
 simp [ZB,-V,-y4,-y3,y0,-jB,-EA,cB,WB,ZA,XA,e7,m7,e8,e67,zf,g,pb];refine hk _ (xs.set z ({ x with c:=IntKind.u8.wrap (x.c + c.a) },pc)) ⟨?_,?_,?_,?_,?_,?_,nds.upd hz ?_ ⟨nc.1,nc.2.1,nc.2.2.1,u8w _⟩ ?_ ?_ ?_ (.inl rfl),?_⟩
 ·simp [e1]
 ·simp [e4]
 ·simp [e5]
 ·simp [e6]
 ·simp [m4]
 ·simp [m5]
 ·simp [rg]
 ·refine (pcs.pci ok sz).pres (ex:=none) ?_ (by dsimp only; omega) (by simp);exact NC.set (NC.refl _ _ _) (.inr (by decide))
 ·exact NC.set (NC.refl _ _ _) (.inr (by decide))
 ·dsimp only; omega
 ·dsimp only; omega
theorem sw2 (hc:c.ok) (hm:c.kind % 8=2) (h:ChT cn cs L i xs c z x pc ps s) (k:Ex->pA->Option RV) (hk:∀ s2 zg,KZ cn cs L i zg s2->k .nrm s2=some r):ZB.run (cE dA eA) (BJ dA eA) s k=some r:=by
 obtain ⟨⟨e1,e4,e5,e6,m4,m5,nds,nx⟩,⟨n7,e7,m7⟩,e8,⟨kk,e9,rb⟩,e67,hz,pcs,ok,sz⟩:=h;rw [hm] at e67;have nc:=nds.num _ (yl hz);have zf:=nds.row;have g:=AE hz 1 (by omega);have pb:∀ v,EA false 1 (z * 5 + 1) (OA xs) (.int .u8 v) .no=some (OA (xs.set z ({ x with a:=v },pc))):=fun v=>mE hz 1 (by omega) _ .no rfl rfl
 obtain ⟨R1,rg⟩:∃ R1:Int->List wA,∀ v,OA (xs.set z ({ x with a:=v },pc))=R1 v:=⟨_,fun v=>rfl⟩;simp only [rg] at pb;simp only [wI] at g;simp at g;generalize sj:OA xs=R0 at *
 simp only [sK] at m7;have h7:∀ n,¬ (7=13/\n=2):=by simp
 have h6:c.a.tmod 6=c.a % 6:=yw hc.2.2.1.1;have h60:0<=c.a % 6:=yK _ (by omega);simp [ZB,-V,-y4,-y3,y0,-jB,-EA,cB,WB,ZA,XA,h6,h60,cS,e7,m7,e8,e67,zf,g,pb];refine hk _ (xs.set z ({ x with a:=IntKind.u8.wrap (((x.a % 2 ^ IntKind.u8.bits).toNat ^^^ (IntKind.u8.wrap (2 ^ shN IntKind.u8 (c.a % 6)) % 2 ^ IntKind.u8.bits).toNat:Nat):Int) },pc)) ⟨?_,?_,?_,?_,?_,?_,nds.upd hz ?_ ⟨nc.1,u8w _,nc.2.2⟩ ?_ ?_ ?_ (.inl rfl),?_⟩
 ·simp [e1]
 ·simp [e4]
 ·simp [e5]
 ·simp [e6]
 ·simp [m4]
 ·simp [m5]
 ·simp [rg]
 ·refine (pcs.pci ok sz).pres (ex:=none) ?_ (by dsimp only; omega) (by simp);exact NC.set (NC.refl _ _ _) (.inr (by decide))
 ·exact NC.set (NC.refl _ _ _) (.inr (by decide))
 ·dsimp only; omega
 ·dsimp only; omega
end
end
section
theorem NC.setX {n:Nat} {ex:Option Nat} {M M':Nat->Nat->Option (List wA)} (h:NC n ex M M') {t' n':Nat} {r:List wA} (hn:ex=some n'):NC n ex M (FZ M' t' n' r):=fun t N ps ht hN hx hm=>by
 rw [wB,if_neg]
 ·exact h t N ps ht hN hx hm
 ·rintro ⟨rfl,rfl⟩;exact hx hn.symm
section
variable {r:RV} {cn:Bool} {cs:List d3} {L i:Nat} {xs:List Nd} {c:d3} {z:Nat} {x:jC} {pc:wA} {ps:List dQ} {s:pA}
theorem KZ.nothing {E:Nat->wA} {n:Nat} (h:KZ cn cs L i xs s) (h1:(E 1).v=(s.env 1).v) (h4:(E 4).v=(s.env 4).v) (h5:(E 5).v=(s.env 5).v) (h6:(E 6).v=(s.env 6).v) (hn:s.next<=n):KZ cn cs L i xs ⟨E,s.mem,n,s.obj,s.gh⟩:=by
 obtain ⟨e1,e4,e5,e6,m4,m5,nds,nx⟩:=h;exact ⟨h1.trans e1,h4.trans e4,h5.trans e5,h6.trans e6,m4,m5,⟨nds.len,nds.row,nds.num,fun q hq=>(nds.pc q hq).pres (ex:=none) (NC.refl _ _ _) hn (by simp),nds.dist⟩,by dsimp only; omega⟩
theorem sw6 (hc:c.ok) (hm:c.kind % 8=6) (h:ChT cn cs L i xs c z x pc ps s) (k:Ex->pA->Option RV) (hk:∀ s2 zg,KZ cn cs L i zg s2->k .nrm s2=some r):ZB.run (cE dA eA) (BJ dA eA) s k=some r:=by
 obtain ⟨ch,⟨n7,e7,m7⟩,e8,⟨kk,e9,rb⟩,e67,hz,pcs,ok,sz⟩:=h;have tx:=ch;obtain ⟨e1,e4,e5,e6,m4,m5,nds,nx⟩:=ch;rw [hm] at e67;have nc:=nds.num _ (yl hz);have zf:=nds.row;have g:=AE hz 4 (by omega);simp only [wI] at g;simp at g;simp only [sK] at m7;rcases pcs with ⟨rfl,rfl⟩ | ⟨la,N,rfl,hN,bx⟩
 ·generalize sj:OA xs=R0 at *
  simp [ZB,-V,-y4,-y3,y0,-jB,-EA,cB,WB,ZA,XA,e7,m7,e8,e67,zf,g];refine hk _ xs (tx.nothing ?_ ?_ ?_ ?_ ?_)
  ·simp
  ·simp
  ·simp
  ·simp
  ·omega
 ·have uj:=rb la;have dh:0<ps.length:=List.length_pos_iff.2 la;have zh:(0:Int)<ps.length:=by omega
  have oz:(kk:Int)<ps.length:=by omega
  obtain ⟨p,hp⟩:∃ p,ps[kk]?=some p:=⟨_,y5 uj⟩;have pb:=R9 (WI ps) (k:=kk) (c:=HD p) (by rw [ye,hp]; rfl) (j:=2) (by simp [HD]) (x:=.int .u8 c.b) rfl 1;have pt:xA ((ps.map HD).set kk ((HD p).set 2 (.int .u8 c.b)))=xA ((ps.set kk { p with flag:=c.b }).map HD):=by
   rw [List.map_set]; rfl
  rw [pt] at pb;have ol:=ok p (yl hp);have zm:∀ q∈ps.set kk { p with flag:=c.b },q.ok:=fun q hq=>by
   rcases List.mem_or_eq_of_mem_set hq with hq | rfl
   ·exact ok q hq
   ·exact ⟨ol.1,ol.2.1,hc.2.2.2⟩
  generalize sj:OA xs=R0 at *
  generalize hR2:xA (ps.map HD)=R2 at *
  generalize hR3:xA ((ps.set kk { p with flag:=c.b }).map HD)=R3 at *
  have hN7:¬ (13=47/\2=N):=by simp
  simp [ZB,-V,-y4,-y3,y0,-jB,-EA,cB,WB,ZA,XA,e7,m7,e8,e9,e67,zf,g,dh,zh,uj,oz,bx,pb];refine hk _ (xs.set z (x,⟨.ref 47 N 3 0 ps.length ps.length,.no⟩)) ⟨?_,?_,?_,?_,?_,?_,nds.upd hz ?_ nc ?_ ?_ ?_ (.inl rfl),?_⟩
  ·simp [e1]
  ·simp [e4]
  ·simp [e5]
  ·simp [e6]
  ·simp [m4]
  ·simp [m5]
  ·rw [H9 hz];simp [zf,sj]
  ·refine .inr ⟨47,N,ps.length,ps.set kk { p with flag:=c.b },by simp,.inl rfl,by dsimp only; omega,by rw [hR3]; simp,zm,by simpa using sz⟩
  ·exact NC.setX (NC.refl _ _ _) rfl
  ·dsimp only; omega
  ·dsimp only; omega
theorem sw7 (hc:c.ok) (hm:c.kind % 8=7) (h:ChT cn cs L i xs c z x pc ps s) (k:Ex->pA->Option RV) (hk:∀ s2 zg,KZ cn cs L i zg s2->k .nrm s2=some r):ZB.run (cE dA eA) (BJ dA eA) s k=some r:=by
 obtain ⟨ch,⟨n7,e7,m7⟩,e8,⟨kk,e9,rb⟩,e67,hz,pcs,ok,sz⟩:=h;have tx:=ch;obtain ⟨e1,e4,e5,e6,m4,m5,nds,nx⟩:=ch;rw [hm] at e67;have nc:=nds.num _ (yl hz);have zf:=nds.row;have g:=AE hz 4 (by omega);simp only [wI] at g;simp at g;simp only [sK] at m7;rcases pcs with ⟨rfl,rfl⟩ | ⟨la,N,rfl,hN,bx⟩
 ·generalize sj:OA xs=R0 at *
  simp [ZB,-V,-y4,-y3,y0,-jB,-EA,cB,WB,ZA,XA,e7,m7,e8,e67,zf,g];refine hk _ xs (tx.nothing ?_ ?_ ?_ ?_ ?_)
  ·simp
  ·simp
  ·simp
  ·simp
  ·omega
 ·have uj:=rb la;have dh:0<ps.length:=List.length_pos_iff.2 la;have zh:(0:Int)<ps.length:=by omega
  have oz:(kk:Int)<ps.length:=by omega
  obtain ⟨p,hp⟩:∃ p,ps[kk]?=some p:=⟨_,y5 uj⟩;have pb:=R9 (WI ps) (k:=kk) (c:=HD p) (by rw [ye,hp]; rfl) (j:=1) (by simp [HD]) (x:=.int .u8 (IntKind.u8.wrap (p.ty + c.b))) rfl 1;have hgt:=row_get1 (WI ps) (k:=kk) (c:=HD p) (by rw [ye,hp]; rfl) (j:=1) (v:=.int .u8 p.ty) (by simp [HD]) 1;rw [cB] at hgt;have pt:xA ((ps.map HD).set kk ((HD p).set 1 (.int .u8 (IntKind.u8.wrap (p.ty + c.b)))))=xA ((ps.set kk { p with ty:=IntKind.u8.wrap (p.ty + c.b) }).map HD):=by
   rw [List.map_set]; rfl
  rw [pt] at pb;have ol:=ok p (yl hp);have zm:∀ q∈ps.set kk { p with ty:=IntKind.u8.wrap (p.ty + c.b) },q.ok:=fun q hq=>by
   rcases List.mem_or_eq_of_mem_set hq with hq | rfl
   ·exact ok q hq
   ·exact ⟨ol.1,u8w _,ol.2.2⟩
  generalize sj:OA xs=R0 at *
  generalize hR2:xA (ps.map HD)=R2 at *
  generalize hR3:xA ((ps.set kk { p with ty:=IntKind.u8.wrap (p.ty + c.b) }).map HD)=R3 at *
  have hN7:¬ (13=47/\2=N):=by simp
  simp [ZB,-V,-y4,-y3,y0,-jB,-EA,cB,WB,ZA,XA,e7,m7,e8,e9,e67,zf,g,dh,zh,uj,oz,bx,pb,hgt];refine hk _ (xs.set z (x,⟨.ref 47 N 3 0 ps.length ps.length,.no⟩)) ⟨?_,?_,?_,?_,?_,?_,nds.upd hz ?_ nc ?_ ?_ ?_ (.inl rfl),?_⟩
  ·simp [e1]
  ·simp [e4]
  ·simp [e5]
  ·simp [e6]
  ·simp [m4]
  ·simp [m5]
  ·rw [H9 hz];simp [zf,sj]
  ·refine .inr ⟨47,N,ps.length,ps.set kk { p with ty:=IntKind.u8.wrap (p.ty + c.b) },by simp,.inl rfl,by dsimp only; omega,by rw [hR3]; simp,zm,by simpa using sz⟩
  ·exact NC.setX (NC.refl _ _ _) rfl
  ·dsimp only; omega
  ·dsimp only; omega
theorem sw4 (hc:c.ok) (hm:c.kind % 8=4) (h:ChT cn cs L i xs c z x pc ps s) (k:Ex->pA->Option RV) (hk:∀ s2 zg,KZ cn cs L i zg s2->k .nrm s2=some r):ZB.run (cE dA eA) (BJ dA eA) s k=some r:=by
 obtain ⟨ch,⟨n7,e7,m7⟩,e8,⟨kk,e9,rb⟩,e67,hz,pcs,ok,sz⟩:=h;have tx:=ch;obtain ⟨e1,e4,e5,e6,m4,m5,nds,nx⟩:=ch;rw [hm] at e67;have nc:=nds.num _ (yl hz);have zf:=nds.row;have g:=AE hz 4 (by omega);simp only [wI] at g;simp at g;simp only [sK] at m7;obtain ⟨wq,hc2,hc3,hc4⟩:=hc;have ep:u8 (IntKind.u8.wrap (c.a.tdiv 12)):=u8w _;have hq:(⟨c.a,c.b,IntKind.u8.wrap (c.a.tdiv 12)⟩:dQ).ok:=⟨hc3,hc4,ep⟩;generalize eh:IntKind.u8.wrap (c.a.tdiv 12)=fl at *
 have pb:∀ n l y,(xs.set z (x,y))[z]?=some (x,y)->EA false 1 (z * 5 + 4) (OA (xs.set z (x,y))) (.ref 168 n 3 0 l l) .no=some (OA (xs.set z (x,⟨.ref 168 n 3 0 l l,.no⟩))):=fun n l y hy=>by
  rw [mE hy 4 (by omega) _ .no rfl rfl (q':=(x,⟨.ref 168 n 3 0 l l,.no⟩)),List.set_set]
 have wn:=(yf.1 hz).1;have room3:kB 3 1=true:=by decide
 rcases pcs with ⟨rfl,rfl⟩ | ⟨la,N,rfl,hN,bx⟩
 ·have lg:∀ n l,EA false 1 (z * 5 + 4) (OA xs) (.ref 168 n 3 0 l l) .no=some (OA (xs.set z (x,⟨.ref 168 n 3 0 l l,.no⟩))):=fun n l=>mE hz 4 (by omega) _ .no rfl rfl
  obtain ⟨R1,rg⟩:∃ R1:Nat->Nat->List wA,∀ n l,OA (xs.set z (x,⟨.ref 168 n 3 0 l l,.no⟩))=R1 n l:=⟨_,fun n l=>rfl⟩;simp only [rg] at lg;generalize sj:OA xs=R0 at *
  simp [ZB,-V,-y4,-y3,y0,-jB,-EA,cB,WB,ZA,XA,e7,m7,e8,e67,zf,g,room3,lg,eh];refine hk _ (xs.set z (x,⟨.ref 168 (s.next + 6) 3 0 1 1,.no⟩)) ⟨?_,?_,?_,?_,?_,?_,nds.upd hz ?_ nc ?_ ?_ ?_ (.inr fun M hM=>?_),?_⟩
  ·simp [e1]
  ·simp [e4]
  ·simp [e5]
  ·simp [e6]
  ·simp [m4]
  ·simp [m5]
  ·simp [rg]
  ·refine .inr ⟨168,s.next + 6,1,[⟨c.a,c.b,fl⟩],rfl,.inr (.inl rfl),by dsimp only; omega,by simp [HD],by simpa using hq,by simp⟩
  ·exact NC.set (NC.set (NC.refl _ _ _) (.inl (by omega))) (.inr (by decide))
  ·dsimp only; omega
  ·simp [IW] at hM; omega
  ·dsimp only; omega
 ·by_cases h8:ps.length<8
  ·have h8i:(ps.length:Int)<8:=by omega
   have uj:=PV nds hz (t:=47) (N:=N) rfl;have hkl':(OA xs).map (wA.kill 47 N)=OA (xs.set z (x,⟨.undef,.no⟩)):=by
    rw [uj];simp [wA.kill_mk,AV.kill,AV.kill0]
   have lg:∀ n,EA false 1 (z * 5 + 4) ((OA xs).map (wA.kill 47 N)) (.ref 168 n 3 0 (ps.length + 1) (ps.length + 1)) .no=some (OA (xs.set z (x,⟨.ref 168 n 3 0 (ps.length + 1) (ps.length + 1),.no⟩))):=fun n=>by
    rw [hkl'];exact pb n (ps.length + 1) _ (List.getElem?_set_self wn)
   obtain ⟨R1,rg⟩:∃ R1:Nat->List wA,∀ n,OA (xs.set z (x,⟨.ref 168 n 3 0 (ps.length + 1) (ps.length + 1),.no⟩))=R1 n:=⟨_,fun n=>rfl⟩;simp only [rg] at lg;have q3:=WI ps;have zj:DE (xA (ps.map HD)) 3 0 ps.length=some (ps.map HD):=by
    have:=cK (WI ps) (LN ps);simpa using this
   have ja:kB 3 (ps.length + 1)=true:=by rw [PA]; omega
   have ah:xA (ps.map HD++[[AV.int .u8 c.a,AV.int .u8 c.b,AV.int .u8 fl]])=xA ((ps++[(⟨c.a,c.b,fl⟩:dQ)]).map HD):=by simp [HD]
   generalize sj:OA xs=R0 at *
   generalize hR2:xA (ps.map HD)=R2 at *
   have dh:0<ps.length:=List.length_pos_iff.2 la;simp [ZB,-V,-y4,-y3,y0,-jB,-EA,cB,WB,ZA,XA,e7,m7,e8,e67,zf,g,lg,eh,h8,h8i,bx,zj,ja,q3,Cl.okMem];refine hk _ (xs.set z (x,⟨.ref 168 (s.next + 6) 3 0 (ps.length + 1) (ps.length + 1),.no⟩)) ⟨?_,?_,?_,?_,?_,?_,nds.upd hz ?_ nc ?_ ?_ ?_ (.inr fun M hM=>?_),?_⟩
   ·simp [e1]
   ·simp [e4]
   ·simp [e5]
   ·simp [e6]
   ·simp [m4]
   ·simp [m5]
   ·simp [rg]
   ·refine .inr ⟨168,s.next + 6,ps.length + 1,ps++[⟨c.a,c.b,fl⟩],by simp,.inr (.inl rfl),by dsimp only; omega,by rw [<- ah]; simp,?_,by simp; omega⟩;intro p hp;rcases yp.1 hp with hp | hp
    ·exact ok p hp
    ·simp at hp;rw [hp];exact hq
   ·exact NC.set (NC.set (NC.kill (NC.refl _ _ _) rfl) (.inl (by omega))) (.inr (by decide))
   ·dsimp only; omega
   ·simp [IW] at hM; omega
   ·dsimp only; omega
  ·have h8i:¬ (ps.length:Int)<8:=by omega
   generalize sj:OA xs=R0 at *
   simp [ZB,-V,-y4,-y3,y0,-jB,-EA,cB,WB,ZA,XA,e7,m7,e8,e67,zf,g,h8,h8i];refine hk _ xs (tx.nothing ?_ ?_ ?_ ?_ ?_)
   ·simp
   ·simp
   ·simp
   ·simp
   ·omega
end
end
section
theorem SY {sz:Nat} {L:List (List AV)} (h:lB sz L=true) (hf:XD L=true) {a b:Nat} (rf:a + b<=L.length):DE (xA L) sz (a * sz) b=some ((L.drop a).take b):=by
 have h1:=cK h hf;have hl:=bK h;unfold DE at h1 ⊢;split at h1
 case isFalse=>cases h1
 rename_i hc;injection h1 with h1;have ub:a * sz + b * sz<=(xA L).length:=by
  rw [hl,<- Nat.add_mul];exact Nat.mul_le_mul_right _ rf
 rw [if_pos ⟨ub,hc.2⟩];congr 1;refine List.ext_getElem? fun i=>?_
 by_cases hi:i<b
 ·have e1:=congrArg (·[a + i]?) h1;simp only [ye] at e1;rw [List.getElem?_range (by omega)] at e1;rw [ye,List.getElem?_range hi,yQ,if_pos hi,yT,<- e1];simp only [yx,yG,Nat.add_mul]
 ·rw [yZ (by simp; omega),yZ (by simp; omega)]
section
variable {r:RV} {cn:Bool} {cs:List d3} {L i:Nat} {xs:List Nd} {c:d3} {z:Nat} {x:jC} {pc:wA} {ps:List dQ} {s:pA}
theorem sw5 (hc:c.ok) (hm:c.kind % 8=5) (h:ChT cn cs L i xs c z x pc ps s) (k:Ex->pA->Option RV) (hk:∀ s2 zg,KZ cn cs L i zg s2->k .nrm s2=some r):ZB.run (cE dA eA) (BJ dA eA) s k=some r:=by
 obtain ⟨ch,⟨n7,e7,m7⟩,e8,⟨kk,e9,rb⟩,e67,hz,pcs,ok,sz⟩:=h;have tx:=ch;obtain ⟨e1,e4,e5,e6,m4,m5,nds,nx⟩:=ch;rw [hm] at e67;have nc:=nds.num _ (yl hz);have zf:=nds.row;have g:=AE hz 4 (by omega);simp only [wI] at g;simp at g;simp only [sK] at m7;have wn:=(yf.1 hz).1;rcases pcs with ⟨rfl,rfl⟩ | ⟨la,N,rfl,hN,bx⟩
 ·generalize sj:OA xs=R0 at *
  simp [ZB,-V,-y4,-y3,y0,-jB,-EA,cB,WB,ZA,XA,e7,m7,e8,e67,zf,g];refine hk _ xs (tx.nothing ?_ ?_ ?_ ?_ ?_)
  ·simp
  ·simp
  ·simp
  ·simp
  ·omega
 ·have uj:=rb la;have dh:0<ps.length:=List.length_pos_iff.2 la;have zh:(0:Int)<ps.length:=by omega
  have hwk:=GA (i:=kk);have hkle:kk<=ps.length:=by omega
  have wg:(0:Int)<=(kk:Int) + 1:=by omega
  have kr:=PV nds hz (t:=47) (N:=N) rfl;have nz:(OA xs).map (wA.kill 47 N)=OA (xs.set z (x,⟨.undef,.no⟩)):=by
   rw [kr];simp [wA.kill_mk,AV.kill,AV.kill0]
  have lg:∀ n l,EA false 1 (z * 5 + 4) ((OA xs).map (wA.kill 47 N)) (.ref 193 n 3 0 l l) .no=some (OA (xs.set z (x,⟨.ref 193 n 3 0 l l,.no⟩))):=fun n l=>by
   have hs:=mE (show (xs.set z (x,(⟨.undef,.no⟩:wA)))[z]?=some (x,⟨.undef,.no⟩) from List.getElem?_set_self wn) 4 (by omega) (.ref 193 n 3 0 l l) .no rfl (q':=(x,⟨.ref 193 n 3 0 l l,.no⟩)) rfl;rw [nz,hs,List.set_set]
  obtain ⟨R1,rg⟩:∃ R1:Nat->Nat->List wA,∀ n l,OA (xs.set z (x,⟨.ref 193 n 3 0 l l,.no⟩))=R1 n l:=⟨_,fun n l=>rfl⟩;simp only [rg] at lg;have q1:=WI (ps.take kk);have q2:=WI (ps.drop (kk + 1));have hre1:DE (xA (ps.map HD)) 3 0 kk=some ((ps.take kk).map HD):=by
   have:=SY (WI ps) (LN ps) (a:=0) (b:=kk) (by simp; omega);simpa [List.map_take] using this
  have hre2:DE (xA (ps.map HD)) 3 ((kk + 1) * 3) (ps.length - (kk + 1))=some ((ps.drop (kk + 1)).map HD):=by
   have:=SY (WI ps) (LN ps) (a:=kk + 1) (b:=ps.length - (kk + 1)) (by simp; omega);rw [this,List.map_drop,yC (by simp)]
  have ja:kB 3 (kk + (ps.length - (kk + 1)))=true:=by rw [PA]; omega
  have jg:kB 3 kk=true:=by rw [PA]; omega
  have zm:∀ q∈ps.take kk++ps.drop (kk + 1),q.ok:=fun q hq=>by
   rcases yp.1 hq with hq | hq
   ·exact ok q (List.mem_of_mem_take hq)
   ·exact ok q (List.mem_of_mem_drop hq)
  have hrr:xA ((ps.take kk).map HD++(ps.drop (kk + 1)).map HD)=xA ((ps.take kk++ps.drop (kk + 1)).map HD):=by rw [yM]
  have dw:(ps.take kk).length=kk:=by rw [yF]; omega
  have up:(ps.drop (kk + 1)).length=ps.length - (kk + 1):=List.length_drop;have ia:(ps.take kk++ps.drop (kk + 1)).length=kk + (ps.length - (kk + 1)):=by rw [yy,dw,up]
  generalize hT:ps.take kk=T at *
  generalize hD:ps.drop (kk + 1)=D at *
  generalize sj:OA xs=R0 at *
  generalize hR2:xA (ps.map HD)=R2 at *
  by_cases bo:ps.length=kk + 1
  ·have hD0:D=[]:=yO (by omega);subst hD0;simp only [List.append_nil] at zm;simp [ZB,-V,-y4,-y3,y0,-jB,-EA,cB,WB,ZA,XA,e7,m7,e8,e9,e67,zf,g,lg,dh,zh,hkle,wg,hwk,bx,bo,hre1,jg,q1,Cl.okMem,QJ];refine hk _ (xs.set z (x,⟨.ref 193 (s.next + 7) 3 0 (kk) (kk),.no⟩)) ⟨?_,?_,?_,?_,?_,?_,nds.upd hz ?_ nc ?_ ?_ ?_ (.inr fun M hM=>?_),?_⟩
   ·simp [e1]
   ·simp [e4]
   ·simp [e5]
   ·simp [e6]
   ·simp [m4]
   ·simp [m5]
   ·simp [rg]
   ·refine .inr ⟨193,s.next + 7,kk,T,by rw [dw],.inr (.inr rfl),by dsimp only; omega,by simp,zm,by rw [dw]; omega⟩
   ·exact NC.set (NC.set (NC.kill (NC.refl _ _ _) rfl) (.inl (by omega))) (.inr (by decide))
   ·dsimp only; omega
   ·simp [IW] at hM; omega
   ·dsimp only; omega
  ·have h1:kk + 1<=ps.length:=by omega
   simp [ZB,-V,-y4,-y3,y0,-jB,-EA,cB,WB,ZA,XA,e7,m7,e8,e9,e67,zf,g,lg,dh,zh,hkle,wg,hwk,bx,bo,h1,hre1,hre2,ja,q1,q2,up,Cl.okMem,QJ];refine hk _ (xs.set z (x,⟨.ref 193 (s.next + 7) 3 0 (kk + (ps.length - (kk + 1))) (kk + (ps.length - (kk + 1))),.no⟩)) ⟨?_,?_,?_,?_,?_,?_,nds.upd hz ?_ nc ?_ ?_ ?_ (.inr fun M hM=>?_),?_⟩
   ·simp [e1]
   ·simp [e4]
   ·simp [e5]
   ·simp [e6]
   ·simp [m4]
   ·simp [m5]
   ·simp [rg]
   ·refine .inr ⟨193,s.next + 7,kk + (ps.length - (kk + 1)),T++D,by rw [ia],.inr (.inr rfl),by dsimp only; omega,by rw [<- hrr]; simp,zm,by rw [ia]; omega⟩
   ·exact NC.set (NC.set (NC.kill (NC.refl _ _ _) rfl) (.inl (by omega))) (.inr (by decide))
   ·dsimp only; omega
   ·simp [IW] at hM; omega
   ·dsimp only; omega
theorem sw_ev (hc:c.ok) (h:ChT cn cs L i xs c z x pc ps s) (k:Ex->pA->Option RV) (hk:∀ s2 zg,KZ cn cs L i zg s2->k .nrm s2=some r):ZB.run (cE dA eA) (BJ dA eA) s k=some r:=by
 have h0:=yK c.kind (b:=8) (by omega);have h1:=yN c.kind (b:=8) (by omega);by_cases m0:c.kind % 8=0
 ·exact sw0 hc m0 h k hk
 by_cases m1:c.kind % 8=1
 ·exact sw1 hc m1 h k hk
 by_cases m2:c.kind % 8=2
 ·exact sw2 hc m2 h k hk
 by_cases m3:c.kind % 8=3
 ·exact sw3 hc m3 h k hk
 by_cases m4:c.kind % 8=4
 ·exact sw4 hc m4 h k hk
 by_cases m5:c.kind % 8=5
 ·exact sw5 hc m5 h k hk
 by_cases m6:c.kind % 8=6
 ·exact sw6 hc m6 h k hk
 ·exact sw7 hc (by omega) h k hk
end
end
theorem rowRaw_v {R R':List wA} (h:R.map (·.v)=R'.map (·.v)) (sz off len:Nat):qH R sz off len=qH R' sz off len:=by
 have hl:R.length=R'.length:=by simpa using congrArg List.length h
 unfold qH;rw [hl];split
 ·congr 1;refine yr fun i _=>?_
  rw [List.map_take,List.map_take,List.map_drop,List.map_drop,h]
 ·rfl
theorem frz_rowV {s:pA} {t n sz c:Nat} {L:List (List AV)} {R:List wA} (h:lB sz L=true) (hm:s.mem t n=some R) (hv:R.map (·.v)=(xA L).map (·.v)) (hf:(L.map fun c=>c.map (AV.frz1 s)).flatten.all AV.free0=true):AV.frz0 s (.ref t n sz 0 L.length c)=.sl false (L.map fun c=>c.map (AV.frz1 s)):=by
 have hr:qH R sz 0 L.length=some L:=by
  rw [rowRaw_v hv];exact uG fun c hc=>by simpa using y6.1 h c hc
 have jh:R.all (fun x=>x.v.free0)=(xA L).all (fun x=>x.v.free0):=by
  have e:∀ q:List wA,q.all (fun x=>x.v.free0)=(q.map (·.v)).all AV.free0:=fun q=>by rw [List.all_map]; rfl
  rw [e,e,hv]
 simp only [AV.frz0,hm,V,I2,jh];by_cases ra:(xA L).all (fun x=>x.v.free0)=true
 ·rw [if_pos ra,hr];have:(L.map fun c=>c.map (AV.frz1 s))=L.map id:=yr fun c hc=>by
   have:c.map (AV.frz1 s)=c.map id:=yr fun v hv=>J0 (by
    have:=y6.1 ra ⟨v,.no⟩ (yu.2 ⟨v,List.mem_flatten.2 ⟨c,hc,hv⟩,rfl⟩);exact this)
   rwa [List.map_id] at this
  rw [this,List.map_id]
 ·rw [if_neg ra];simp only [J4,hr,V];rw [if_pos hf]
def ndC (q:Nd):List AV:=(wI q).map (·.v)
theorem J8:∀ xs:List Nd,(OA xs).map (·.v)=(xA (xs.map ndC)).map (·.v)
 | []=>rfl
 | q :: r=>by
  have:=J8 r;unfold OA xA at this ⊢;simp only [List.flatMap_cons,yM,yg,yD];rw [this];simp [ndC]
def jC.sized (x:jC):Prop:=x.parts.length * 3<=140737488355328
theorem nd_frz2 {L:Nat} {s:pA} {xs:List Nd} (h:p5 L s.mem s.next xs):∀ ys:List Nd,(∀ q∈ys,q∈xs)->∃ l':List jC,(∀ x∈l',x.ok/\x.sized)/\((ys.map ndC).map fun c=>c.map (AV.frz1 s))=l'.map CC
 | [],_=>⟨[],by simp,rfl⟩
 | q :: r,hq=>by
  obtain ⟨l',h1,h2⟩:=nd_frz2 h r fun b hb=>hq b (by simp [hb])
  have hm:=hq q (by simp);have hn:=h.num q hm;have hx:∃ x':jC,(x'.ok/\x'.sized)/\(ndC q).map (AV.frz1 s)=CC x':=by
   rcases h.pc q hm with ⟨nl,ps,a,e,_,h3,h4⟩ | ⟨t,N,c,ps,e,_,_,h3,h4,h5⟩
   ·refine ⟨⟨q.1.k,q.1.a,q.1.b,q.1.c,nl,ps⟩,⟨⟨hn.1,hn.2.1,hn.2.2.1,hn.2.2.2,by dsimp only; omega,h3⟩,by unfold jC.sized; dsimp only; omega⟩,?_⟩;simp [ndC,wI,e,AV.frz1,CC]
   ·refine ⟨⟨q.1.k,q.1.a,q.1.b,q.1.c,false,ps⟩,⟨⟨hn.1,hn.2.1,hn.2.2.1,hn.2.2.2,by dsimp only; omega,h4⟩,by unfold jC.sized; dsimp only; omega⟩,?_⟩;have:=cK (WI ps) (LN ps);simp only [yq] at this;simp [ndC,wI,e,AV.frz1,CC,h3,this]
  obtain ⟨x',h3,h4⟩:=hx;refine ⟨x' :: l',?_,?_⟩
  ·intro y hy;rcases yh.1 hy with rfl | hy
   ·exact h3
   ·exact h1 y hy
  ·simp only [yg,h4,h2]
def ChE2 (n:Nat) (e:Ex) (s:pA):Prop:=e=.ret/\(s.env 4).v=.ptr 4 1 0/\((n=0/\s.mem 4 1=some [⟨.sl false [],.no⟩])\/∃ xs,s.mem 4 1=some [⟨.ref 13 2 5 0 n n,.no⟩]/\p5 n s.mem s.next xs)
section
variable {dn cn:Bool} {l:List jC} (hx:∀ x∈l,x.ok/\x.sized) (hl:l.length * 32<=140737488355328) {cs:List d3} (hc:∀ c∈cs,c.ok) (dd:cs.length<=9223372036854775807)
include dn cn l hx hl cs hc dd
theorem O3 (k:Ex->pA->Option RV) (r:RV) (hk:∀ e s',ChE2 l.length e s'->k e s'=some r):dE.code.run (cE dA eA) (BJ dA eA) (pA.init [.agg (FF dn l),.sl cn (cs.map aZ)] none) k=some r:=by
 have jg:kB 32 0=true:=by decide
 by_cases la:l=[]
 ·subst la;simp [dE,FF,-V,-y4,-y3,y0,jg];refine gA 0 (fun _ s=>(s.env 1).v=.sl cn (cs.map aZ)/\(s.env 4).v=.ptr 4 1 0/\(s.env 5).v=.ptr 5 2 0/\(s.env 6).v=.int .i64 0/\s.mem 4 1=some [⟨.sl true [],.ex⟩]/\s.mem 5 2=some [⟨.sl false [],.no⟩])
   (fun e s=>e=.exit 0/\(s.env 4).v=.ptr 4 1 0/\(s.env 5).v=.ptr 5 2 0/\s.mem 4 1=some [⟨.sl true [],.ex⟩]/\s.mem 5 2=some [⟨.sl false [],.no⟩]) (fun i hi s k h ih hk=>?_) _ _ ?_ (fun e s h=>?_)
  ·obtain ⟨e1,e4,e5,e6,m4,m5⟩:=h;refine tA ?_;by_cases h0:cs=[]
   ·subst h0;simp at e1;simp [QC,-V,-y4,-y3,y0,e1,e5,e6,m5];exact hk _ _ ⟨rfl,by simp [e4],by simp [e5],m4,m5⟩
   ·have h1:(0:Int)<cs.length:=by have:=List.length_pos_iff.2 h0; omega
    have h2:=List.length_pos_iff.2 h0;simp [QC,-V,-y4,-y3,y0,e1,e5,e6,m5,h1,h2];exact hk _ _ ⟨rfl,by simp [e4],by simp [e5],m4,m5⟩
  ·refine ⟨?_,?_,?_,?_,?_,?_⟩ <;> simp
  ·obtain ⟨rfl,e4,e5,m4,m5⟩:=h;simp [-V,-y4,-y3,y0,e4,e5,m4,m5];exact hk _ _ ⟨rfl,by simp [e4],.inl ⟨by simp,by simp⟩⟩
 ·have dh:=List.length_pos_iff.2 la;have zh:(0:Int)<l.length:=by omega
  have bg:l.isEmpty=false:=by simpa using la
  have ja:kB 32 l.length=true:=by rw [PA]; omega
  have td:lB 5 (l.map CC)=true:=lC _ _ _ fun _=>rfl
  simp [dE,FF,-V,-y4,-y3,y0,ja,td,bg,la];refine gA cs.length (fun i s=>∃ xs,KZ cn cs l.length i xs s)
   (fun e s=>e=.exit 0/\∃ xs,KZ cn cs l.length cs.length xs s) (fun i hi s k h ih hk=>?_) _ _ ?_ (fun e s h=>?_)
  ·obtain ⟨xs,h⟩:=h;by_cases fa:i<cs.length
   ·refine chg_head fa dd hc dh (by omega) h k (fun s' gj c z x pc ps kk xq hT rb=>sw_ev (hc c xq) hT kk rb) (fun s' gj h'=>ih fa s' ⟨gj,h'⟩)
   ·have rp:i=cs.length:=by omega
    have ga:¬ (i:Int)<cs.length:=by omega
    refine tA ?_;have e1:=h.e1;have e6:=h.e6;simp [QC,-V,-y4,-y3,y0,e1,e6,ga];rw [<- rp];refine hk _ _ ⟨rfl,xs,?_⟩;rw [<- rp];exact h.nothing (by simp) (by simp) (by simp) (by simp) (by omega)
  ·refine ⟨l.map fun x=>(x,⟨.sl x.pn (x.parts.map HD),.no⟩),⟨?_,?_,?_,?_,?_,?_,⟨by simp,?_,?_,?_,?_⟩,?_⟩⟩
   ·simp
   ·simp
   ·simp
   ·simp
   ·simp
   ·simp
   ·have:xA (l.map CC)=OA (l.map fun x=>(x,⟨.sl x.pn (x.parts.map HD),.no⟩)):=by
     unfold xA OA;rw [List.map_flatten,y3,List.flatMap_map];rfl
    simp [this]
   ·intro q hq;obtain ⟨x,wu,rfl⟩:=yu.1 hq;have:=(hx x wu).1;exact ⟨this.1,this.2.1,this.2.2.1,this.2.2.2.1⟩
   ·intro q hq;obtain ⟨x,wu,rfl⟩:=yu.1 hq;exact .inl ⟨x.pn,x.parts,.no,rfl,.inl rfl,(hx x wu).1.2.2.2.2.2,(hx x wu).2⟩
   ·intro j k a b N _ ha _ dy _;rw [ye] at ha;obtain ⟨x,_,rfl⟩:=yj.1 ha;simp [IW] at dy
   ·simp
  ·obtain ⟨rfl,xs,e1,e4,e5,e6,m4,m5,nds,nx⟩:=h;simp [-V,-y4,-y3,y0,e4,e5,m4,m5];refine hk _ _ ⟨rfl,by simp [e4],.inr ⟨xs,by simp,?_⟩⟩;exact ⟨nds.len,by simp [nds.row],nds.num,fun q hq=>(nds.pc q hq).pres (ex:=none) (NC.set (NC.refl _ _ _) (.inr (by decide))) (by dsimp only; omega) (by simp),nds.dist⟩
theorem J7:∃ r:RV,(∃ l':List jC,(∀ x∈l',x.ok/\x.sized)/\l'.length=l.length/\r=(.agg (FF false l'),none))/\cE dA eA 69 [.agg (FF dn l),.sl cn (cs.map aZ)] none=some r:=by
 refine evC_reach allT_det dE rfl rfl (F:=ChE2 l.length) (O3 hx hl hc dd) fun e s' h=>?_
 have md:dE.res=[.cell 4 true 1]:=rfl;obtain ⟨rfl,e4,⟨fh,m4⟩ | ⟨xs,m4,nds⟩⟩:=h
 ·exact ⟨_,by simp [uO,md,RT,e4,m4,jB,AV.frz,AV.frz0,sX,AV.free,AV.free0,cW]; rfl,[],by simp,by simp [fh],rfl⟩
 ·obtain ⟨l',h1,h2⟩:=nd_frz2 nds xs fun q hq=>hq
  have td:lB 5 (xs.map ndC)=true:=lC _ _ _ fun _=>rfl
  have g2:=frz_rowV (c:=l.length) td nds.row (J8 xs) (by rw [h2]; simp [CC,AV.free0]);rw [yq,nds.len,h2] at g2;have f1:AV.frz s' (.agg [.ref 13 2 5 0 l.length l.length])=.agg [.sl false (l'.map CC)]:=by simp only [AV.frz,yg,yk,g2]
  exact ⟨_,by simp [uO,md,RT,e4,m4,jB,f1,sX,AV.free,AV.free0,cW,-AV.frz,-AV.frz0]; rfl,l',h1,by have:=congrArg List.length h2; simp only [yq] at this; rw [<- this,nds.len],rfl⟩
end
end Go.Proofs.YtbnlmgncbgaepaaGreat
