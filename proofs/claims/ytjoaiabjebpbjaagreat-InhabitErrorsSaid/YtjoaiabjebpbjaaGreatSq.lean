/- A part of the proof. -/
import Derived.Test.YtjoaiabjebpbjaaGreatSk
set_option linter.all false
set_option maxRecDepth 100000
set_option maxHeartbeats 8000000
open Option renaming bind_some → V, map_some → yq
open List renaming range_succ → J, map_map → y0, getElem?_eq_getElem → y4, getElem_mem → y5, getElem?_map → y8, drop_eq_getElem_cons → y9, mem_cons → yc, map_cons → yl, length_map → yn, map_nil → yo, cons_append → yx, length_append → yA, flatten_cons → yC, eq_nil_of_length_eq_zero → yF, length_cons → yI, nil_append → yK, getElem?_append_right → yP, mem_of_getElem? → yQ, getElem?_eq_none → yZ
open Int renaming toNat_lt → y3, tmod_eq_emod_of_nonneg → yu
open Bool renaming and_eq_true → y7
open Nat renaming le_refl → yf, zero_add → yD
namespace Go.Proofs.YtjoaiabjebpbjaaGreat
open Go
section
section
variable {α:Type}
structure xJ (bt:α->α->Bool):Prop where
 irr:∀ a,bt a a=false
 tr:∀ a b c,bt a b=true->bt b c=true->bt a c=true
 neg:∀ a b c,bt a b=false->bt b c=false->bt a c=false
theorem xJ.asym {bt:α->α->Bool} (h:xJ bt) {a b:α} (h1:bt a b=true):bt b a=false:=by
 cases h2:bt b a with
 | false=>rfl
 | true=>have:=h.tr _ _ _ h1 h2; rw [h.irr] at this; cases this
variable (bt:α->α->Bool) (imp:Nat->(Nat->α)->α)
def KF (l:Nat->α) (i:Nat):Nat->α:=fun j=>if j=i then (if bt (imp i l) (l i) then imp i l else l i) else l j
def P1 (l:Nat->α):Nat->Nat->α
 | 0=>l
 | i + 1=>KF bt imp (P1 l i) i
def WV (N:Nat) (l:Nat->α):Nat->Nat->α
 | 0=>l
 | k + 1=>P1 bt imp (WV N l k) N
structure XN (N:Nat) (good:(Nat->α)->Prop) (used:Nat->(Nat->α)->Nat->Prop) (dep:α->Nat):Prop where
 keep:∀ l i,good l->(∀ u,u<N->dep (l u)<=N)->i<N->bt (imp i l) (l i)=true->good (KF bt imp l i)
 rng:∀ l t u,good l->t<N->used t l u->u<N
 sup:∀ l t u,good l->t<N->used t l u->bt (imp t l) (l u)=false
 loc:∀ l t i,good l->t<N->i<N->bt (imp i l) (l i)=true->good (KF bt imp l i)->¬ used t (KF bt imp l i) i->bt (imp t (KF bt imp l i)) (imp t l)=false/\∀ u,used t l u->used t (KF bt imp l i) u
 dp:∀ l t,good l->t<N->dep (imp t l)<=1\/∃ u,used t l u/\dep (imp t l)<=dep (l u) + 1
variable {bt:α->α->Bool} {imp:Nat->(Nat->α)->α} {N:Nat} {good:(Nat->α)->Prop} {used:Nat->(Nat->α)->Nat->Prop} {dep:α->Nat}
def ChB (bt:α->α->Bool) (N:Nat) (l:Nat->α) (t m:Nat):Prop:=∃ P:List Nat,P.Nodup/\(∀ u∈P,u<N/\bt (l t) (l u)=false)/\m<=P.length
theorem KR:∀ (N:Nat) (P:List Nat),P.Nodup->(∀ u∈P,u<N)->P.length<=N
 | 0,[],_,_=>yf _
 | 0,u :: _,_,h=>absurd (h u (by simp)) (by omega)
 | N + 1,P,hn,h=>by
  have h1:(P.erase N).Nodup:=hn.erase N;have h2:∀ u∈P.erase N,u<N:=fun u hu=>by
   have h3:=h u (List.mem_of_mem_erase hu);have h4:u≠N:=(List.Nodup.mem_erase_iff hn).1 hu |>.1;omega
  have h3:=KR N _ h1 h2;by_cases hm:N∈P
  ·have:=List.length_erase_of_mem hm;omega
  ·rw [List.erase_of_not_mem hm] at h3;omega
structure jW (bt:α->α->Bool) (imp:Nat->(Nat->α)->α) (N:Nat) (good:(Nat->α)->Prop) (used:Nat->(Nat->α)->Nat->Prop) (dep:α->Nat) (j i:Nat) (l:Nat->α) (c:Nat->Nat):Prop where
 g:good l
 ch:∀ t,t<N->ChB bt N l t (c t)
 dc:∀ t,t<N->ChB bt N l t (dep (l t))
 w:∀ t,t<N->bt (imp t l) (l t)=true->(j=0/\i<=t)\/∃ u,used t l u/\(if t<i then j + 1 else j)<=c u
theorem ChB.dep_le {l:Nat->α} {t m:Nat} (h:ChB bt N l t m):m<=N:=by
 obtain ⟨P,h1,h2,h3⟩:=h;have:=KR N P h1 fun u hu=>(h2 u hu).1
 omega
theorem ChB.more (hB:xJ bt) {l:Nat->α} {i u m:Nat} {v:α} (hi:i<N) (hc:ChB bt N l u m) (hs:bt v (l u)=false) (hv:bt v (l i)=true):∃ P:List Nat,P.Nodup/\(∀ w∈P,w<N/\(w=i\/bt v (l w)=false))/\m + 1<=P.length:=by
 obtain ⟨P,h1,h2,h3⟩:=hc;have hP:∀ w∈P,bt v (l w)=false:=fun w hw=>hB.neg _ _ _ hs (h2 w hw).2
 refine ⟨i :: P,List.nodup_cons.2 ⟨fun hm=>?_,h1⟩,fun w hw=>?_,by simp; omega⟩
 ·have:=hP i hm;rw [hv] at this;cases this
 ·rcases yc.1 hw with rfl | hw
  ·exact ⟨hi,.inl rfl⟩
  ·exact ⟨(h2 w hw).1,.inr (hP w hw)⟩
theorem mQ {l:Nat->α} {i:Nat} (h:bt (imp i l) (l i)=true):KF bt imp l i i=imp i l:=by simp [KF,h]
theorem iK {l:Nat->α} {i j:Nat} (h:j≠i):KF bt imp l i j=l j:=by simp [KF,h]
theorem x6 {l:Nat->α} {i:Nat} (h:bt (imp i l) (l i)=false):KF bt imp l i=l:=by
 funext j;unfold KF;split
 ·rename_i e; subst e; simp [h]
 ·rfl
theorem p7 (hB:xJ bt) {l:Nat->α} {i:Nat} (hb:bt (imp i l) (l i)=true) {P:List Nat} (hP:∀ w∈P,w<N/\(w=i\/bt (imp i l) (l w)=false)):∀ w∈P,w<N/\bt (KF bt imp l i i) (KF bt imp l i w)=false:=fun w hw=>by
 refine ⟨(hP w hw).1,?_⟩;rw [mQ hb];by_cases e:w=i
 ·subst e;rw [mQ hb];exact hB.irr _
 ·rw [iK e];rcases (hP w hw).2 with h | h
  ·exact absurd h e
  ·exact h
theorem ChB.up (hB:xJ bt) {l:Nat->α} {i t m:Nat} (hb:bt (imp i l) (l i)=true) (hti:t≠i) (h:ChB bt N l t m):ChB bt N (KF bt imp l i) t m:=by
 obtain ⟨P,h1,h2,h3⟩:=h;refine ⟨P,h1,fun w hw=>⟨(h2 w hw).1,?_⟩,h3⟩;rw [iK hti];by_cases e:w=i
 ·subst e;rw [mQ hb];exact hB.neg _ _ _ (h2 w hw).2 (hB.asym hb)
 ·rw [iK e];exact (h2 w hw).2
theorem jW.step (hB:xJ bt) (hI:XN bt imp N good used dep) {j i:Nat} {l:Nat->α} {c:Nat->Nat} (hi:i<N) (h:jW bt imp N good used dep j i l c):∃ c',jW bt imp N good used dep j (i + 1) (KF bt imp l i) c':=by
 cases hb:bt (imp i l) (l i) with
 | false =>
  rw [x6 hb];refine ⟨c,h.g,h.ch,h.dc,fun t ht md=>?_⟩;have ta:t≠i:=fun e=>by subst e; rw [hb] at md; cases md
  rcases h.w t ht md with ⟨h0,h1⟩ | ⟨u,hu,h1⟩
  ·exact .inl ⟨h0,by omega⟩
  ·refine .inr ⟨u,hu,?_⟩;by_cases fa:t<i
   ·rw [if_pos fa] at h1;rw [if_pos (by omega)];exact h1
   ·rw [if_neg fa] at h1;rw [if_neg (by omega)];exact h1
 | true =>
  have hdep:∀ u,u<N->dep (l u)<=N:=fun u hu=>(h.dc u hu).dep_le
  have hg':=hI.keep l i h.g hdep hi hb;have one:ChB bt N (KF bt imp l i) i 1:=⟨[i],by simp,p7 hB hb (by simp [hi]),by simp⟩;have more:∀ u m,used i l u->ChB bt N l u m->ChB bt N (KF bt imp l i) i (m + 1):=fun u m hu hc=>by
   obtain ⟨P,h1,h2,h3⟩:=hc.more hB hi (hI.sup l i u h.g hi hu) hb;exact ⟨P,h1,p7 hB hb h2,h3⟩
  refine ⟨fun t=>if t=i then j + 1 else c t,hg',fun t ht=>?_,fun t ht=>?_,fun t ht md=>?_⟩
  ·by_cases e:t=i
   ·subst e;simp only [if_true];rcases h.w t ht hb with ⟨h0,_⟩ | ⟨u,hu,h1⟩
    ·subst h0; exact one
    ·rw [if_neg (by omega)] at h1;obtain ⟨P,q1,q2,q3⟩:=more u (c u) hu (h.ch u (hI.rng l t u h.g ht hu));exact ⟨P,q1,q2,by omega⟩
   ·rw [if_neg e];exact (h.ch t ht).up hB hb e
  ·by_cases e:t=i
   ·subst e;rw [mQ hb];rcases hI.dp l t h.g ht with h0 | ⟨u,hu,h1⟩
    ·obtain ⟨P,q1,q2,q3⟩:=one;exact ⟨P,q1,q2,by omega⟩
    ·obtain ⟨P,q1,q2,q3⟩:=more u _ hu (h.dc u (hI.rng l t u h.g ht hu));exact ⟨P,q1,q2,by omega⟩
   ·rw [iK e];exact (h.dc t ht).up hB hb e
  ·by_cases sd:used t (KF bt imp l i) i
   ·by_cases e:t=i
    ·subst e;have:=hI.sup _ t t hg' ht sd;rw [this] at md;cases md
    ·refine .inr ⟨i,sd,?_⟩;simp only [if_true];split <;> omega
   ·obtain ⟨h1,h2⟩:=hI.loc l t i h.g ht hi hb hg' sd;by_cases e:t=i
    ·subst e;rw [mQ hb] at md;rw [h1] at md;cases md
    ·rw [iK e] at md;have hbt':bt (imp t l) (l t)=true:=by
      cases hx:bt (imp t l) (l t) with
      | true=>rfl
      | false=>rw [hB.neg _ _ _ h1 hx] at md; cases md
     rcases h.w t ht hbt' with ⟨h0,h3⟩ | ⟨u,hu,h3⟩
     ·exact .inl ⟨h0,by omega⟩
     ·have hui:u≠i:=fun e'=>by subst e'; exact sd (h2 u hu)
      refine .inr ⟨u,h2 u hu,?_⟩;simp only [if_neg hui];by_cases fa:t<i
      ·rw [if_pos fa] at h3;rw [if_pos (by omega)];exact h3
      ·rw [if_neg fa] at h3;rw [if_neg (by omega)];exact h3
theorem jW.sweep (hB:xJ bt) (hI:XN bt imp N good used dep) {j:Nat} {l:Nat->α} {c:Nat->Nat} (h:jW bt imp N good used dep j 0 l c):∀ i,i<=N->∃ c',jW bt imp N good used dep j i (P1 bt imp l i) c'
 | 0,_=>⟨c,h⟩
 | i + 1,hi=>by
  obtain ⟨c',h'⟩:=jW.sweep hB hI h i (by omega);exact h'.step hB hI (by omega)
theorem jW.rounds (hB:xJ bt) (hI:XN bt imp N good used dep) {l:Nat->α} (hg:good l) (hd:∀ t,t<N->dep (l t)=0):∀ k,∃ c,jW bt imp N good used dep k 0 (WV bt imp N l k) c
 | 0=>⟨fun _=>0,hg,fun t _=>⟨[],by simp,by simp,by simp⟩,fun t ht=>⟨[],by simp,by simp,by simp [WV,hd t ht]⟩,fun t _ _=>.inl ⟨rfl,by omega⟩⟩
 | k + 1=>by
  obtain ⟨c,h⟩:=jW.rounds hB hI hg hd k;obtain ⟨c',h'⟩:=h.sweep hB hI N (yf _);refine ⟨c',h'.g,h'.ch,h'.dc,fun t ht md=>?_⟩;rcases h'.w t ht md with ⟨_,h1⟩ | ⟨u,hu,h1⟩
  ·omega
  ·rw [if_pos ht] at h1;exact .inr ⟨u,hu,by rw [if_neg (by omega)]; exact h1⟩
theorem j4 {l:Nat->α} (h:∀ t,t<N->bt (imp t l) (l t)=false):∀ i,i<=N->P1 bt imp l i=l
 | 0,_=>rfl
 | i + 1,hi=>by rw [P1,j4 h i (by omega),x6 (h i (by omega))]
section
variable (hB:xJ bt) (hI:XN bt imp N good used dep) {l:Nat->α} (hg:good l) (hd:∀ t,t<N->dep (l t)=0)
include hB hI l hg hd
theorem M8 (k:Nat) (hk:N<=k):WV bt imp N l (k + 1)=WV bt imp N l k:=by
 obtain ⟨c,h⟩:=jW.rounds hB hI hg hd k;rw [WV];refine j4 (fun t ht=>?_) N (yf _);cases hb:bt (imp t (WV bt imp N l k)) (WV bt imp N l k t) with
 | false=>rfl
 | true =>
  exfalso;rcases h.w t ht hb with ⟨h0,_⟩ | ⟨u,hu,h1⟩
  ·omega
  ·rw [if_neg (by omega)] at h1;obtain ⟨P,q1,q2,q3⟩:=(h.ch u (hI.rng _ t u h.g ht hu)).more hB ht (hI.sup _ t u h.g ht hu) hb;have:=KR N P q1 fun w hw=>(q2 w hw).1
   omega
theorem u9 (k i:Nat) (hi:i<=N):good (P1 bt imp (WV bt imp N l k) i)/\∀ t,t<N->dep (P1 bt imp (WV bt imp N l k) i t)<=N:=by
 obtain ⟨c,h⟩:=jW.rounds hB hI hg hd k;obtain ⟨c',h'⟩:=h.sweep hB hI i hi;exact ⟨h'.g,fun t ht=>(h'.dc t ht).dep_le⟩
end
end
end
section
def gF (n:Int):List AV:=[.int .u8 n]
def T2 (n:Int):UInt8:=UInt8.ofNat n.toNat
def PP:Nat->Int->List Int
 | 0,_=>[]
 | k + 1,n=>if 128<=n then (n % 128 + 128) :: PP k (n / 128) else [n]
def OR:Nat->Int->List Int
 | 0,_=>[]
 | k + 1,n=>if 0<n then OR k (n / 256)++[n % 256] else []
def iN (l:List Int):ByteArray:=⟨(l.map T2).toArray⟩
def lM (n:Int):ByteArray:=iN (PP 10 n)
def MZ (n:Int):ByteArray:=iN (OR 8 n)
theorem lN:∀ l:List Int,bytesOf (l.map gF)=some (l.map T2)
 | []=>rfl
 | n :: r=>by
  have ih:=lN r;rw [yl,show gF n=[AV.int .u8 n] from rfl,bytesOf]
  ·rfl
  ·exact ih
theorem CP (l:List Int):kB 1 (l.map gF)=true:=rD _ _ _ fun _=>rfl
theorem uP (l:List Int):(iN l).size=l.length:=by simp [iN,ByteArray.size]
theorem X8:∀ k n,(PP k n).length<=k
 | 0,_=>yf _
 | k + 1,n=>by
  rw [PP];split
  ·have:=X8 k (n / 128);simp only [yI];omega
  ·simp
theorem putL_pos:∀ k n,0<k->0<(PP k n).length
 | 0,_,h=>by omega
 | k + 1,n,_=>by
  rw [PP];split <;> simp
theorem N6:∀ k n,(OR k n).length<=k
 | 0,_=>yf _
 | k + 1,n=>by
  rw [OR];split
  ·have:=N6 k (n / 256);simp only [yA,yI,List.length_nil];omega
  ·simp
theorem JZ (n:Int):IntKind.u8.wrap n=n % 256:=rfl
theorem or_128 (x:Fin 256):(BitVec.ofNat 8 x.1 ||| 128#8).toNat=x.1 % 128 + 128:=by
 revert x
 decide
theorem or_u8 (n:Int) (h:0<=n):WJ .or false (.int .u8 (IntKind.u8.wrap n)) (.int .u8 128)=some (.int .u8 (n % 128 + 128)):=by
 have hm:0<=n % 256/\n % 256<256:=by omega
 have h1:=or_128 ⟨(n % 256).toNat,by omega⟩;have h2:BitVec.ofInt 8 (n % 256)=BitVec.ofNat 8 (n % 256).toNat:=by
  rw [show BitVec.ofInt 8 (n % 256)=BitVec.ofInt 8 (((n % 256).toNat:Nat):Int) from by rw [show (((n % 256).toNat:Nat):Int)=n % 256 from by omega],BitVec.ofInt_natCast]
 have h3:((BitVec.ofInt 8 (n % 256) ||| BitVec.ofInt 8 128).toNat:Int)=n % 128 + 128:=by
  rw [h2];have:BitVec.ofInt 8 128=128#8:=by decide
  rw [this,h1];simp only;omega
 simp only [WJ,JZ,xS];show some (AV.int .u8 (IntKind.u8.wrap ((BitVec.ofInt 8 (n % 256) ||| BitVec.ofInt 8 128).toNat:Int)))=_;rw [h3,JZ];congr 2;omega
theorem shr_7 (n c:Int) (h:n / 128=c):WJ .shr false (.int .u64 n) (.int .u64 7)=some (.int .u64 c):=by
 simp only [WJ];rw [if_pos (by decide)];have:(2:Int) ^ shN .u64 7=128:=by decide
 rw [this,Int.fdiv_eq_ediv_of_nonneg n (by decide),h]
theorem shr_8 (n c:Int) (h:n / 256=c):WJ .shr false (.int .u64 n) (.int .u64 8)=some (.int .u64 c):=by
 simp only [WJ];rw [if_pos (by decide)];have:(2:Int) ^ shN .u64 8=256:=by decide
 rw [this,Int.fdiv_eq_ediv_of_nonneg n (by decide),h]
def IT (k:Nat) (l:List Int):List Int:=l++List.replicate (k - l.length) 0
section
variable {k:IntKind} {t:Bool} {a b:Int}
theorem bi_geq:WJ .geq t (.int k a) (.int k b)=some (.bool (decide (b<=a))):=by simp [WJ]
theorem bi_gtr:WJ .gtr t (.int k a) (.int k b)=some (.bool (decide (b<a))):=by simp [WJ]
theorem bi_add:WJ .add t (.int k a) (.int k b)=some (.int k (k.wrap (a + b))):=by simp [WJ]
theorem bi_sub:WJ .sub t (.int k a) (.int k b)=some (.int k (k.wrap (a - b))):=by simp [WJ]
end
end
def bnd:Nat->Int
 | 0=>1
 | 1=>2
 | k + 2=>128 * bnd (k + 1)
def u0:Nat->Int
 | 0=>1
 | k + 1=>256 * u0 k
theorem bnd_le:∀ k,k<=10->bnd k<=18446744073709551616:=by
 intro k h;have:k=0\/k=1\/k=2\/k=3\/k=4\/k=5\/k=6\/k=7\/k=8\/k=9\/k=10:=by omega
 rcases this with rfl | rfl | rfl | rfl | rfl | rfl | rfl | rfl | rfl | rfl | rfl <;> decide
theorem bnd8_le:∀ k,k<=8->u0 k<=18446744073709551616:=by
 intro k h;have:k=0\/k=1\/k=2\/k=3\/k=4\/k=5\/k=6\/k=7\/k=8:=by omega
 rcases this with rfl | rfl | rfl | rfl | rfl | rfl | rfl | rfl | rfl <;> decide
theorem pH (l:List Int):jA (l.map gF)=l.map fun n=>(⟨.int .u8 n,.no⟩:rA):=by
 unfold jA
 induction l with
 | nil=>rfl
 | cons x r ih=>simp only [yl,yC,gF,yx,yK]; rw [<- ih]
theorem byte_pre (l:List Int) (i:Nat) (h:i<=l.length):iF (jA (l.map gF)) 1 0 i=some ((l.take i).map gF):=by
 unfold iF;have h1:0 + i * 1<=(jA (l.map gF)).length:=by rw [pH,yn]; omega
 have h2:(jA (l.map gF)).all (fun x=>x.v.free0)=true:=by rw [pH]; simp [AV.free0]
 rw [if_pos ⟨h1,h2⟩];congr 1;apply List.ext_getElem?;intro j;by_cases hj:j<i
 ·have hl:j<l.length:=by omega
  simp only [y8,List.getElem?_range hj,yq,List.getElem?_take_of_lt hj,y4 hl];rw [pH];simp only [Nat.mul_one,yD];rw [<- List.map_drop,y9 hl];rfl
 ·rw [yZ (by simp; omega),yZ (by simp; omega)]
theorem bX (l:List Int) (i:Nat) (n:Int):(l.map gF).set i [.int .u8 n]=(l.set i n).map gF:=by
 exact (List.map_set (f:=gF)).symm
theorem pad_set {k i:Nat} {l:List Int} (hl:l.length=i) (hi:i<k) (n:Int):(IT k l).set i n=IT k (l++[n]):=by
 subst hl;unfold IT;rw [List.set_append_right _ _ (yf _),Nat.sub_self];have:k - l.length=(k - (l++[n]).length) + 1:=by simp; omega
 rw [this,List.replicate_succ,List.set_cons_zero];simp
theorem rX {k:Nat} {l:List Int} (h:l.length<=k):(IT k l).length=k:=by
 unfold IT;simp;omega
theorem pad_take {k:Nat} {l:List Int}:(IT k l).take l.length=l:=by
 unfold IT;rw [List.take_left]
theorem put_ev (n0:Int) (h0:0<=n0/\n0<18446744073709551616):sA 244 [.int .u64 n0] (.str (lM n0)):=by
 refine wA (c:=sM) rfl rfl ?_;simp [sM,-V,-y3,-y0,J];refine bA 9 (fun i s=>∃ m l,l.length=i/\l++PP (10 - i) m=PP 10 n0/\0<=m/\m<bnd (10 - i)/\(s.env 0).v=.int .u64 m/\(s.env 3).v=.ptr 3 2 0/\(s.env 4).v=.int .i64 i/\s.mem 3 2=some (jA ((IT 10 l).map gF)))
  (fun e s=>e=.exit 0/\∃ (i:Nat) (m:Int) (l:List Int),i<=9/\l.length=i/\l++[m]=PP 10 n0/\0<=m/\m<128/\(s.env 0).v=.int .u64 m/\(s.env 3).v=.ptr 3 2 0/\(s.env 4).v=.int .i64 i/\s.mem 3 2=some (jA ((IT 10 l).map gF))) (fun i hi s k h ih hk=>?_) _ _ ?_ (fun e s h=>?_)
 ·obtain ⟨m,l,hl,hp,be,dv,e0,e3,e4,m3⟩:=h;refine uA ?_;by_cases c:128<=m
  ·have hi9:i<9:=by
    rcases Nat.lt_or_ge i 9 with h | h
    ·exact h
    ·have:i=9:=by omega
     subst this;simp [bnd] at dv;omega
   obtain ⟨j,hj⟩:∃ j,10 - i=j + 2:=⟨8 - i,by omega⟩;rw [hj,bnd] at dv;rw [hj,PP,if_pos c] at hp;have js:10 - (i + 1)=j + 1:=by omega
   have hor:=or_u8 m be;have gn:=shr_7 m (m / 128) rfl;have hw:=LA (i:=i);have mb:=cM (CP (IT 10 l)) (k:=i) (by rw [yn,rX (by omega)]; omega) (x:=.int .u8 (m % 128 + 128)) rfl 1;rw [bX,pad_set hl (by omega)] at mb;have hi10:i<10:=by omega
   simp [FL,-V,-y3,-y0,J,-SA,-xA,RA,OA,lA,zA,-WJ,e0,e3,e4,m3,c,hor,gn,hw,mb,hi10,bi_geq,bi_add];refine ih hi9 _ ⟨m / 128,l++[m % 128 + 128],by simp [hl],by rw [js]; simpa using hp,by omega,by rw [js]; omega,?_,?_,?_,?_⟩ <;> simp [e3]
  ·have c':¬ 128<=m:=c;obtain ⟨j,hj⟩:∃ j,10 - i=j + 1:=⟨9 - i,by omega⟩;rw [hj,PP,if_neg c'] at hp;simp [FL,-V,-y3,-y0,J,-SA,-xA,RA,OA,lA,zA,e0,c];exact hk _ _ ⟨rfl,i,m,l,hi,hl,hp,be,by omega,by simp [e0],by simp [e3],by simp [e4],m3⟩
 ·refine ⟨n0,[],rfl,rfl,h0.1,by simp [bnd]; omega,?_,?_,?_,?_⟩
  ·simp
  ·simp
  ·simp
  ·simp [IT,jA,gF]
 ·obtain ⟨rfl,i,m,l,hi,hl,hp,be,ti,e0,e3,e4,m3⟩:=h;have hu8:IntKind.u8.wrap m=m:=by rw [JZ]; omega
  have hw:=LA (i:=i);have mb:=cM (CP (IT 10 l)) (k:=i) (by rw [yn,rX (by omega)]; omega) (x:=.int .u8 m) rfl 1;rw [bX,pad_set hl (by omega)] at mb;have hi10:i<10:=by omega
  have ot:(l++[m]).length=i + 1:=by simp [hl]
  have ry:=byte_pre (IT 10 (l++[m])) (i + 1) (by rw [rX (by omega)]; omega);rw [<- ot,pad_take,ot,hp] at ry;have mr:=lN (PP 10 n0);have nf:i + 1<=10:=by omega
  have hrl:i + 1<=10/\10<=(jA (List.map gF (IT 10 (l++[m])))).length:=⟨nf,by rw [pH,yn,rX (by omega)]; omega⟩;have h0i:(0:Int)<=(i:Int) + 1:=by omega
  rw [hp] at mb hrl;simp [-V,-y3,-y0,J,-SA,-xA,RA,OA,lA,zA,e0,e3,e4,m3,hu8,mb,hw,hi10,ry,mr,nf,h0i,hrl.2,Cl.okMem,lM,iN]
def fQ (k:Nat) (l:List Int):List Int:=List.replicate (k - l.length) 0++l
theorem uZ {k:Nat} {l:List Int} (h:l.length<=k):(fQ k l).length=k:=by
 unfold fQ;simp;omega
theorem padR_set {k i:Nat} {l:List Int} (hl:l.length + (i + 1)=k) (n:Int):(fQ k l).set i n=fQ k (n :: l):=by
 unfold fQ;have h1:k - l.length=i + 1:=by omega
 have h2:k - (n :: l).length=i:=by simp; omega
 rw [h1,h2,List.set_append_left _ _ (by simp),List.replicate_succ'];rw [List.set_append_right _ _ (by simp)];simp
theorem padR_els {k i:Nat} {l:List Int} (hl:l.length + i=k):iF (jA ((fQ k l).map gF)) 1 i (k - i)=some (l.map gF):=by
 unfold iF;have ba:=uZ (k:=k) (l:=l) (by omega);have h1:i + (k - i) * 1<=(jA ((fQ k l).map gF)).length:=by rw [pH,yn,ba]; omega
 have h2:(jA ((fQ k l).map gF)).all (fun x=>x.v.free0)=true:=by rw [pH]; simp [AV.free0]
 rw [if_pos ⟨h1,h2⟩];congr 1;apply List.ext_getElem?;intro j;by_cases hj:j<k - i
 ·have oq:j<l.length:=by omega
  simp only [y8,List.getElem?_range hj,yq,y4 oq];rw [pH,<- List.map_drop];have h3:i + j * 1<(fQ k l).length:=by omega
  rw [y9 h3];have h4:(fQ k l)[i + j * 1]=l[j]:=by
   have h5:(fQ k l)[i + j * 1]?=l[j]?:=by
    unfold fQ;rw [yP (by simp; omega)];congr 1;simp;omega
   rw [y4 h3,y4 oq] at h5;injection h5
  rw [h4];rfl
 ·rw [yZ (by simp; omega),yZ (by simp; omega)]
theorem bigL_0:∀ k,OR k 0=[]
 | 0=>rfl
 | k + 1=>rfl
section
variable (n0:Int) (h0:0<=n0/\n0<18446744073709551616)
include n0 h0
theorem big_ev:sA 235 [.int .u64 n0] (.str (MZ n0)):=by
 refine wA (c:=aM) rfl rfl ?_;simp [aM,-V,-y3,-y0,J];refine bA 8 (fun i s=>∃ m l,l.length=i/\OR (8 - i) m++l=OR 8 n0/\0<=m/\m<u0 (8 - i)/\(s.env 0).v=.int .u64 m/\(s.env 3).v=.ptr 3 2 0/\(s.env 4).v=.int .i64 ((8:Int) - i)/\s.mem 3 2=some (jA ((fQ 8 l).map gF)))
  (fun e s=>e=.exit 0/\∃ (i:Nat) (l:List Int),i<=8/\l.length=i/\l=OR 8 n0/\(s.env 3).v=.ptr 3 2 0/\(s.env 4).v=.int .i64 ((8:Int) - i)/\s.mem 3 2=some (jA ((fQ 8 l).map gF))) (fun i hi s k h ih hk=>?_) _ _ ?_ (fun e s h=>?_)
 ·obtain ⟨m,l,hl,hp,be,dv,e0,e3,e4,m3⟩:=h;refine uA ?_;by_cases c:0<m
  ·have hi8:i<8:=by
    rcases Nat.lt_or_ge i 8 with h | h
    ·exact h
    ·have:i=8:=by omega
     subst this;simp [u0] at dv;omega
   obtain ⟨j,hj⟩:∃ j,8 - i=j + 1:=⟨7 - i,by omega⟩;rw [hj,u0] at dv;rw [hj,OR,if_pos c] at hp;have js:8 - (i + 1)=j:=by omega
   have gn:=shr_8 m (m / 256) rfl;obtain ⟨z,hz⟩:∃ z:Int,z=(8:Int) - i:=⟨_,rfl⟩;obtain ⟨y,hy⟩:∃ y:Int,y=(8:Int) - ((i + 1:Nat):Int):=⟨_,rfl⟩;have hw:IntKind.i64.wrap (z - 1)=y:=by rw [IntWalk.i64_in _ (by omega)]; omega
   have tg:0<=y:=by omega
   have hyt:y.toNat=j:=by omega
   have hy8:y.toNat<8:=by omega
   have mb:=cM (CP (fQ 8 l)) (k:=y.toNat) (by rw [yn,uZ (by omega)]; omega) (x:=.int .u8 (m % 256)) rfl 1;rw [bX,padR_set (by omega)] at mb;have h8:=JZ m;rw [<- hz] at e4;simp [DL,-V,-y3,-y0,J,-SA,-xA,RA,OA,lA,zA,-WJ,e0,e3,e4,m3,c,gn,hw,mb,tg,hy8,h8,bi_gtr,bi_sub];refine ih hi8 _ ⟨m / 256,(m % 256) :: l,by simp [hl],by rw [js]; simpa using hp,by omega,by rw [js]; omega,?_,?_,?_,?_⟩ <;> simp [e3,hy]
  ·have hm:m=0:=by omega
   subst hm;rw [bigL_0,yK] at hp;simp [DL,-V,-y3,-y0,J,-SA,-xA,RA,OA,lA,zA,e0];exact hk _ _ ⟨rfl,i,l,hi,hl,hp,by simp [e3],by simp [e4],m3⟩
 ·refine ⟨n0,[],rfl,by simp,h0.1,by simp [u0]; omega,?_,?_,?_,?_⟩
  ·simp
  ·simp
  ·simp
  ·simp [fQ,jA,gF]
 ·obtain ⟨rfl,i,l,hi,hl,hp,e3,e4,m3⟩:=h;obtain ⟨z,hz⟩:∃ z:Int,z=(8:Int) - i:=⟨_,rfl⟩;rw [<- hz] at e4;have bc:0<=z:=by omega
  have hz8:z.toNat<=8:=by omega
  have mr:=lN (OR 8 n0);have ed:=padR_els (k:=8) (i:=z.toNat) (l:=l) (by omega);rw [hp] at ed;rw [hp] at m3;have ba:8<=(jA (List.map gF (fQ 8 (OR 8 n0)))).length:=by rw [pH,yn,uZ (by rw [<- hp]; omega)]; omega
  by_cases h8:z.toNat=8
  ·have ly:OR 8 n0=[]:=by rw [<- hp]; exact yF (by omega)
   rw [ly] at ba m3;simp [-V,-y3,-y0,J,-SA,-xA,RA,OA,lA,zA,e3,e4,m3,bc,hz8,h8,ba,Cl.okMem,MZ,iN,ly,bytesOf]
  ·have h8':¬ 8=z.toNat:=fun h=>h8 h.symm
   simp [-V,-y3,-y0,J,-SA,-xA,RA,OA,lA,zA,e3,e4,m3,bc,hz8,h8,h8',ba,ed,mr,Cl.okMem,MZ,iN]
theorem X5:sA 164 [.int .u64 n0] (.str (lM n0)):=by
 refine wA (c:=QN) rfl rfl ?_;simp [QN,-V,-y3,-y0,J];refine bA 9 (fun i s=>∃ m l,l.length=i/\l++PP (10 - i) m=PP 10 n0/\0<=m/\m<bnd (10 - i)/\(s.env 0).v=.int .u64 m/\((i=0/\(s.env 3).v=.sl true [])\/(0<i/\(s.env 3).v=.sl false (l.map gF)/\(s.env 3).a=.own 12 5)))
  (fun e s=>e=.exit 0/\∃ (i:Nat) (m:Int) (l:List Int),i<=9/\l.length=i/\l++[m]=PP 10 n0/\0<=m/\m<128/\(s.env 0).v=.int .u64 m/\((i=0/\(s.env 3).v=.sl true [])\/(0<i/\(s.env 3).v=.sl false (l.map gF)/\(s.env 3).a=.own 12 5))) (fun i hi s k h ih hk=>?_) _ _ ?_ (fun e s h=>?_)
 ·obtain ⟨m,l,hl,hp,be,dv,e0,e3⟩:=h;refine uA ?_;by_cases c:128<=m
  ·have hi9:i<9:=by
    rcases Nat.lt_or_ge i 9 with h | h
    ·exact h
    ·have:i=9:=by omega
     subst this;simp [bnd] at dv;omega
   obtain ⟨j,hj⟩:∃ j,10 - i=j + 2:=⟨8 - i,by omega⟩;rw [hj,bnd] at dv;rw [hj,PP,if_pos c] at hp;have js:10 - (i + 1)=j + 1:=by omega
   have h1:m.tmod 128=m % 128:=yu be;have h2:IntKind.u64.wrap (m % 128)=m % 128:=aE _ (by omega);have h3:IntKind.u64.wrap (m % 128 + 128)=m % 128 + 128:=aE _ (by omega);have h4:IntKind.u8.wrap (m % 128 + 128)=m % 128 + 128:=by rw [JZ]; omega
   have h5:m.tdiv 128=m / 128:=Int.tdiv_eq_ediv_of_nonneg be;have h6:IntKind.u64.wrap (m / 128)=m / 128:=aE _ (by have:=bnd_le (j + 1) (by omega); omega);have ja:PB 1 (i + 1)=true:=by rw [CA]; omega
   have q:=CP l;rcases e3 with ⟨fg,e3⟩ | ⟨fg,e3,a3⟩
   ·subst fg;have xf:l=[]:=yF hl;subst xf;have r11:PB 1 1=true:=by decide
    simp [RJ,-V,-y3,-y0,J,e0,e3,c,h1,h2,h3,h4,h5,h6,r11];refine ih hi9 _ ⟨m / 128,[]++[m % 128 + 128],by simp,by rw [js]; simpa using hp,by omega,by rw [js]; omega,?_,.inr ⟨by omega,?_,?_⟩⟩ <;> simp [gF]
   ·simp [RJ,-V,-y3,-y0,J,e0,e3,a3,c,h1,h2,h3,h4,h5,h6,hl,ja,q];refine ih hi9 _ ⟨m / 128,l++[m % 128 + 128],by simp [hl],by rw [js]; simpa using hp,by omega,by rw [js]; omega,?_,.inr ⟨by omega,?_,?_⟩⟩ <;> simp [gF]
  ·obtain ⟨j,hj⟩:∃ j,10 - i=j + 1:=⟨9 - i,by omega⟩;rw [hj,PP,if_neg c] at hp;simp [RJ,-V,-y3,-y0,J,e0,c];exact hk _ _ ⟨rfl,i,m,l,hi,hl,hp,be,by omega,by simp [e0],by
    rcases e3 with ⟨fg,e3⟩ | ⟨fg,e3,a3⟩
    ·exact .inl ⟨fg,by simp [e3]⟩
    ·exact .inr ⟨fg,by simp [e3],by simp [a3]⟩⟩
 ·refine ⟨n0,[],rfl,rfl,h0.1,by simp [bnd]; omega,?_,.inl ⟨rfl,?_⟩⟩
  ·simp
  ·simp
 ·obtain ⟨rfl,i,m,l,hi,hl,hp,be,ti,e0,e3⟩:=h;have hu8:IntKind.u8.wrap m=m:=by rw [JZ]; omega
  have ja:PB 1 (i + 1)=true:=by rw [CA]; omega
  have q:=CP l;have mr:bytesOf (l.map gF++[[AV.int .u8 m]])=some ((PP 10 n0).map T2):=by
   have:=lN (l++[m]);rw [hp,<- hp,List.map_append] at this;simpa [gF,hp] using this
  rcases e3 with ⟨fg,e3⟩ | ⟨fg,e3,a3⟩
  ·subst fg;have xf:l=[]:=yF hl;subst xf;simp at mr;have r11:PB 1 1=true:=by decide
   simp [-V,-y3,-y0,J,e0,e3,hu8,mr,lM,iN,r11]
  ·simp [-V,-y3,-y0,J,e0,e3,a3,hu8,hl,ja,q,mr,lM,iN]
theorem rbig_ev:sA 163 [.int .u64 n0] (.str (MZ n0)):=by
 refine wA (c:=nN) rfl rfl ?_;simp [nN,-V,-y3,-y0,J];refine bA 8 (fun i s=>∃ m l,l.length=i/\OR (8 - i) m++l=OR 8 n0/\0<=m/\m<u0 (8 - i)/\(s.env 0).v=.int .u64 m/\(s.env 3).v=.str (iN l))
  (fun e s=>e=.exit 0/\(s.env 3).v=.str (MZ n0)) (fun i hi s k h ih hk=>?_) _ _ ?_ (fun e s h=>?_)
 ·obtain ⟨m,l,hl,hp,be,dv,e0,e3⟩:=h;refine uA ?_;by_cases c:0<m
  ·have hi8:i<8:=by
    rcases Nat.lt_or_ge i 8 with h | h
    ·exact h
    ·have:i=8:=by omega
     subst this;simp [u0] at dv;omega
   obtain ⟨j,hj⟩:∃ j,8 - i=j + 1:=⟨7 - i,by omega⟩;rw [hj,u0] at dv;rw [hj,OR,if_pos c] at hp;have js:8 - (i + 1)=j:=by omega
   have h1:m.tmod 256=m % 256:=yu be;have h2:IntKind.u64.wrap (m % 256)=m % 256:=aE _ (by omega);have h4:IntKind.u8.wrap (m % 256)=m % 256:=by rw [JZ]; omega
   have h5:m.tdiv 256=m / 256:=Int.tdiv_eq_ediv_of_nonneg be;have h6:IntKind.u64.wrap (m / 256)=m / 256:=aE _ (by have:=bnd8_le j (by omega); omega);have ma:(ByteArray.mk #[T2 (m % 256)]).size + (iN l).size<=9223372036854775807:=by rw [uP]; show 1 + l.length<=_; omega
   have nr:(ByteArray.mk #[T2 (m % 256)])++iN l=iN ((m % 256) :: l):=by
    apply ByteArray.ext;simp [iN]
   have mr:bytesOf [[AV.int .u8 (m % 256)]]=some [T2 (m % 256)]:=rfl;simp [FM,-V,-y3,-y0,J,e0,e3,c,h1,h2,h4,h5,h6,mr,ma,nr];refine ih hi8 _ ⟨m / 256,(m % 256) :: l,by simp [hl],by rw [js]; simpa using hp,by omega,by rw [js]; omega,?_,?_⟩ <;> simp
  ·have hm:m=0:=by omega
   subst hm;rw [bigL_0,yK] at hp;subst hp;simp [FM,-V,-y3,-y0,J,e0];exact hk _ _ ⟨rfl,by simp [e3,MZ]⟩
 ·refine ⟨n0,[],rfl,by simp,h0.1,by simp [u0]; omega,?_,?_⟩
  ·simp
  ·simp [iN]
 ·obtain ⟨rfl,e3⟩:=h;simp [-V,-y3,-y0,J,e3]
end
def FD (p:ByteArray):ByteArray:=lM p.size++p
def CJ (id:Int) (c:Bool):Int:=if c then 2 * id + 1 else 2 * id
def iG (id:Int) (c:Bool) (p:ByteArray):ByteArray:=lM (CJ id c)++FD p
def jF (m:bB) (v:Vl):Bool:=m.has&&m.dflt.same v
def eB:ByteArray:=⟨#[]⟩
def UG (f:Int->Vl->ByteArray):List bB->List Vl->ByteArray->ByteArray
 | m :: r,v :: q,b=>UG f r q (if jF m v then b else b++iG m.id m.crit (f m.ty v))
 | _,_,b=>b
def TD (f:Vl->ByteArray):List Vl->ByteArray->ByteArray
 | [],b=>b
 | v :: r,b=>TD f r (b++FD (f v))
def mE (f g:Vl->ByteArray):List Vl->List Vl->ByteArray->ByteArray
 | k :: r,v :: q,b=>mE f g r q (b++FD (f k)++FD (g v))
 | _,_,b=>b
def armB (f:Int->Vl->ByteArray):Option bB->List Vl->ByteArray
 | some m,u :: _=>f m.ty u
 | _,_=>eB
def LW (f:Vl->ByteArray):List Vl->ByteArray
 | u :: _=>⟨#[1]⟩++f u
 | []=>eB
def eD (f:Int->Vl->ByteArray) (x:gA) (v:Vl):ByteArray :=
 if x.kind=1 then (if v.b then ⟨#[1]⟩ else eB)
 else if x.kind=2 then MZ (CZ v.i)
 else if x.kind=3 then v.s
 else if x.kind=4 then MZ v.id
 else if x.kind=5 then UG f x.mems v.items eB
 else if x.kind=6 then lM v.id++armB f x.mems[(aC x.mems v.id).toNat]? v.items
 else if x.kind=9 then LW (f x.elem) v.items
 else if x.kind=7 then TD (f x.elem) v.items eB
 else mE (f x.key) (f x.elem) v.keys v.items eB
def tI (S:List gA):Nat->Int->Vl->ByteArray
 | 0,_,_=>eB
 | n + 1,t,v=>match S[t.toNat]? with
  | some x=>eD (tI S n) x v
  | none=>eB
def lI (f:Int->Vl->Nat):List bB->List Vl->Nat->Nat
 | m :: r,v :: q,b=>lI f r q (if jF m v then b else max b (f m.ty v))
 | _,_,b=>b
def HF (f:Vl->Nat):List Vl->Nat->Nat
 | [],b=>b
 | v :: r,b=>HF f r (max b (f v))
def xH (f g:Vl->Nat):List Vl->List Vl->Nat->Nat
 | k :: r,v :: q,b=>xH f g r q (max (max b (f k)) (g v))
 | _,_,b=>b
def armD (f:Int->Vl->Nat):Option bB->List Vl->Nat
 | some m,u :: _=>f m.ty u
 | _,_=>0
def H8 (f:Vl->Nat):List Vl->Nat
 | u :: _=>f u
 | []=>0
def FH (f:Int->Vl->Nat) (x:gA) (v:Vl):Nat :=
 if x.kind=5 then 1 + lI f x.mems v.items 0
 else if x.kind=6 then 1 + armD f x.mems[(aC x.mems v.id).toNat]? v.items
 else if x.kind=9 then 1 + H8 (f x.elem) v.items
 else if x.kind=7 then 1 + HF (f x.elem) v.items 0
 else if x.kind=8 then 1 + xH (f x.key) (f x.elem) v.keys v.items 0
 else 1
def ZQ (S:List gA):Nat->Int->Vl->Nat
 | 0,_,_=>1
 | n + 1,t,v=>match S[t.toNat]? with
  | some x=>FH (ZQ S n) x v
  | none=>1
theorem sJ (n:Int):(lM n).size<=10:=by
 unfold lM;rw [uP];exact X8 10 n
theorem M1 (n:Int):(MZ n).size<=8:=by
 unfold MZ;rw [uP];exact N6 8 n
theorem pE (p:ByteArray):p.size<=(FD p).size/\(FD p).size<=p.size + 10:=by
 have:=sJ p.size;unfold FD;rw [ByteArray.size_append];omega
theorem bL (id:Int) (c:Bool) (p:ByteArray):p.size<=(iG id c p).size/\(iG id c p).size<=p.size + 20:=by
 have:=sJ (CJ id c);have:=pE p;unfold iG;rw [ByteArray.size_append];omega
theorem G3 (f:Int->Vl->ByteArray):∀ (l:List bB) (q:List Vl) (b:ByteArray),b.size<=(UG f l q b).size
 | [],q,b=>by cases q <;> exact yf _
 | m :: r,[],b=>yf _
 | m :: r,v :: q,b=>by
  have:=G3 f r q (if jF m v then b else b++iG m.id m.crit (f m.ty v));rw [UG];split at this
  ·rename_i h; rw [if_pos h]; exact this
  ·rename_i h;rw [if_neg h];rw [ByteArray.size_append] at this;omega
theorem FO (f:Vl->ByteArray):∀ (l:List Vl) (b:ByteArray),b.size<=(TD f l b).size
 | [],b=>yf _
 | v :: r,b=>by
  have:=FO f r (b++FD (f v));rw [ByteArray.size_append] at this;rw [TD];omega
theorem DQ (f g:Vl->ByteArray):∀ (l q:List Vl) (b:ByteArray),b.size<=(mE f g l q b).size
 | [],q,b=>by cases q <;> exact yf _
 | k :: r,[],b=>yf _
 | k :: r,v :: q,b=>by
  have:=DQ f g r q (b++FD (f k)++FD (g v));rw [ByteArray.size_append,ByteArray.size_append] at this;rw [mE];omega
theorem ZT (p:ByteArray) (h:p.size<=140737488355328):sA 239 [.str p] (.str (FD p)):=by
 have h1:IntKind.u64.wrap (p.size:Int)=p.size:=aE _ (by omega);have h2:=put_ev p.size (by omega);have h3:(lM p.size).size + p.size<=9223372036854775807:=by have:=sJ p.size; omega
 simp only [sA] at h2;refine wA (c:=EJ) rfl rfl ?_;simp [EJ,-V,-y3,-y0,J,h1,h2,h3,FD]
theorem GT (p:ByteArray) (h:p.size<=140737488355328):sA 165 [.str p] (.str (FD p)):=by
 have h1:IntKind.u64.wrap (p.size:Int)=p.size:=aE _ (by omega);have h2:=X5 p.size (by omega);have h3:(lM p.size).size + p.size<=9223372036854775807:=by have:=sJ p.size; omega
 simp only [sA] at h2;refine wA (c:=uM) rfl rfl ?_;simp [uM,-V,-y3,-y0,J,h1,h2,h3,FD]
section
variable (id:Int) (LN:1<=id/\id<=1000) (c:Bool) (p:ByteArray) (h:p.size<=140737488355328)
include id LN c p h
theorem field_ev:sA 250 [.int .i64 id,.bool c,.str p] (.str (iG id c p)):=by
 have h1:IntKind.u64.wrap id=id:=aE _ (by omega);have h2:IntKind.u64.wrap (2 * id)=2 * id:=aE _ (by omega);have h3:IntKind.u64.wrap (2 * id + 1)=2 * id + 1:=aE _ (by omega);have h4:=put_ev (CJ id c) (by unfold CJ; split <;> omega);have h5:=ZT p h;have h6:(lM (CJ id c)).size + (FD p).size<=9223372036854775807:=by have:=sJ (CJ id c); have:=pE p; omega
 simp only [sA] at h4 h5;refine wA (c:=aH) rfl rfl ?_;cases c with
 | true =>
  simp only [CJ,if_true] at h4 h6;simp [aH,-V,-y3,-y0,J,h1,h2,h3,h4,h5,h6,iG,CJ]
 | false =>
  simp [CJ] at h4 h6;simp [aH,-V,-y3,-y0,J,h1,h2,h4,h5,h6,iG,CJ]
theorem C3:sA 166 [.int .i64 id,.bool c,.str p] (.str (iG id c p)):=by
 have h1:IntKind.i64.wrap (2 * id)=2 * id:=IntWalk.i64_in _ (by omega);have h2:IntKind.u64.wrap (2 * id)=2 * id:=aE _ (by omega);have h3:IntKind.u64.wrap (2 * id + 1)=2 * id + 1:=aE _ (by omega);have h4:=X5 (CJ id c) (by unfold CJ; split <;> omega);have h5:=GT p h;have h6:(lM (CJ id c)).size + (FD p).size<=9223372036854775807:=by have:=sJ (CJ id c); have:=pE p; omega
 simp only [sA] at h4 h5;refine wA (c:=aI) rfl rfl ?_;cases c with
 | true =>
  simp only [CJ,if_true] at h4 h6;simp [aI,-V,-y3,-y0,J,h1,h2,h3,h4,h5,h6,iG,CJ]
 | false =>
  simp [CJ] at h4 h6;simp [aI,-V,-y3,-y0,J,h1,h2,h4,h5,h6,iG,CJ]
end
theorem same_comm:∀ (n:Nat) (v w:Vl),SizeOf.sizeOf v<n->v.same w=w.same v:=by
 intro n
 induction n with
 | zero=>intro v w h; omega
 | succ n ih =>
  have hl:∀ (l m:List Vl),(∀ x∈l,SizeOf.sizeOf x<n)->Vl.sames l m=Vl.sames m l:=fun l=>by
   induction l with
   | nil=>intro m _; cases m <;> simp [Vl.sames]
   | cons x r ihr =>
    intro m h;cases m with
    | nil=>simp [Vl.sames]
    | cons y q=>rw [Vl.sames,Vl.sames,ih x y (h x (by simp)),ihr q (fun z hz=>h z (by simp [hz]))]
  intro v w h;rw [Vl.same_def,Vl.same_def,hl v.keys w.keys (fun x hx=>by have:=Vl.keys_lt v x hx; omega),hl v.items w.items (fun x hx=>by have:=Vl.items_lt v x hx; omega)];have e1:(decide (v.kind=w.kind))=decide (w.kind=v.kind):=decide_eq_decide.2 eq_comm;have e2:(v.b == w.b)=(w.b == v.b):=by cases v.b <;> cases w.b <;> rfl
  have e3:(decide (v.i=w.i))=decide (w.i=v.i):=decide_eq_decide.2 eq_comm;have e4:(decide (v.s=w.s))=decide (w.s=v.s):=decide_eq_decide.2 eq_comm;have e5:(decide (v.id=w.id))=decide (w.id=v.id):=decide_eq_decide.2 eq_comm;have e6:(decide (v.rest=w.rest))=decide (w.rest=v.rest):=decide_eq_decide.2 eq_comm;rw [e1,e2,e3,e4,e5,e6]
theorem same_sym (v w:Vl):v.same w=w.same v:=same_comm (SizeOf.sizeOf v + 1) v w (by omega)
section
section
variable (sn:Bool) (S:List gA) (t:Int)
theorem each1F_ev (v:Vl) (h:sA 188 [WB sn S,.int .i64 t,.agg (pA v),.bool false] (.bool true)):sA 228 [.agg (pA v),.bp [.sl sn (S.map eA)],.bp [.int .i64 t],.bp [.bool false]] (.bool false):=by
 refine wA (c:=WF) rfl rfl ?_;simp only [sA,qA] at h ⊢;simp [WF,-V,-y3,-y0,J,h]
theorem OS (l:List Vl) (hl:l.length<=9223372036854775807) (b:Bool) (h:∀ v∈l,sA 188 [WB sn S,.int .i64 t,.agg (pA v),.bool false] (.bool true)):sA 215 [WB sn S,.int .i64 t,.sl b (l.map pA),.bool false] (.bool true):=by
 have hi:=BS 228 [.bp [.sl sn (S.map eA)],.bp [.int .i64 t],.bp [.bool false]] l (fun _=>false) hl (fun _ _=>rfl) (fun v hv=>each1F_ev sn S t v (h v hv)) b;have hn:wC (fun _:Vl=>false) l=-1:=by
  have h1:=nL (fun _:Vl=>false) l;have h2:(l.any fun _=>false)=false:=by simp
  rw [h2] at h1;have h3:=sF (fun _:Vl=>false) l;have h4:¬ 0<=wC (fun _:Vl=>false) l:=of_decide_eq_false h1;omega
 rw [hn] at hi;have hc:sA 227 [.sl b (l.map pA),.fn 228 [.bp [.sl sn (S.map eA)],.bp [.int .i64 t],.bp [.bool false]]] (.bool false):=by
  refine wA (c:=zB) rfl rfl ?_;simp only [sA] at hi;simp [zB,-V,-y3,-y0,J,hi]
 refine wA (c:=DH) rfl rfl ?_;simp only [sA] at hc;simp [DH,-V,-y3,-y0,J,hc]
variable (x:gA) (v:Vl) (h0:0<=t) (ra:¬ (S.length:Int)<=t) (g:(S.map eA)[t.toNat]?=some (eA x)) (hp:sA 213 [.agg (pA v)] (.bool true))
include h0 ra g hp
theorem fitsF1 (hk:x.kind=1) (hv:v.kind=1):sA 188 [WB sn S,.int .i64 t,.agg (pA v),.bool false] (.bool true):=by
 have kb:¬ t<0:=by omega
 simp only [sA,eA,qA,hk,hv] at hp g;refine wA (c:=dA) rfl rfl ?_;rw [qA];simp [dA,-V,-y3,-y0,J,kb,ra,h0,g,hp,hk,hv]
theorem fitsF2 (hk:x.kind=2) (hv:v.kind=2) (c1:x.low<=v.i) (c2:v.i<=x.high):sA 188 [WB sn S,.int .i64 t,.agg (pA v),.bool false] (.bool true):=by
 have kb:¬ t<0:=by omega
 simp only [sA,eA,qA,hk,hv] at hp g;refine wA (c:=dA) rfl rfl ?_;rw [qA];simp [dA,-V,-y3,-y0,J,kb,ra,h0,g,hp,hk,hv,c1,c2]
theorem fitsF3 (hk:x.kind=3) (hv:v.kind=3) (c1:(v.s.size:Int)<=x.max):sA 188 [WB sn S,.int .i64 t,.agg (pA v),.bool false] (.bool true):=by
 have kb:¬ t<0:=by omega
 simp only [sA,eA,qA,hk,hv] at hp g;refine wA (c:=dA) rfl rfl ?_;rw [qA];simp [dA,-V,-y3,-y0,J,kb,ra,h0,g,hp,hk,hv,c1]
theorem fitsF4 (hk:x.kind=4) (hv:v.kind=4) (hs:sA 125 [.agg (eA x),.int .i64 v.id] (A1 x.syms v.id)) (c1:0<=AN x.syms v.id):sA 188 [WB sn S,.int .i64 t,.agg (pA v),.bool false] (.bool true):=by
 have kb:¬ t<0:=by omega
 simp only [sA,eA,qA,hk,hv] at hp g;refine wA (c:=dA) rfl rfl ?_;rw [qA];simp only [sA,eA,A1,hk] at hs;generalize AN x.syms v.id=ix at *
 simp only [c1,decide_true] at hs;simp [dA,-V,-y3,-y0,J,kb,ra,h0,g,hp,hk,hv,hs,c1]
theorem fitsF7 (hk:x.kind=7) (hv:v.kind=7) (he:sA 215 [WB sn S,.int .i64 x.elem,.sl v.xn (v.items.map pA),.bool false] (.bool true)) (c1:(v.items.length:Int)<=x.max):sA 188 [WB sn S,.int .i64 t,.agg (pA v),.bool false] (.bool true):=by
 have kb:¬ t<0:=by omega
 simp only [sA,eA,qA,hk,hv] at hp g;refine wA (c:=dA) rfl rfl ?_;rw [qA];simp only [sA] at he;simp [dA,-V,-y3,-y0,J,kb,ra,h0,g,hp,hk,hv,c1,he]
theorem fitsF9 (hk:x.kind=9) (hv:v.kind=9) (he:sA 215 [WB sn S,.int .i64 x.elem,.sl v.xn (v.items.map pA),.bool false] (.bool true)) (c1:v.items.length<=1):sA 188 [WB sn S,.int .i64 t,.agg (pA v),.bool false] (.bool true):=by
 have kb:¬ t<0:=by omega
 simp only [sA,eA,qA,hk,hv] at hp g;refine wA (c:=dA) rfl rfl ?_;rw [qA];simp only [sA] at he;have c2:(v.items.length:Int)<=1:=by omega
 simp [dA,-V,-y3,-y0,J,kb,ra,h0,g,hp,hk,hv,c1,c2,he]
theorem fitsF5 (hk:x.kind=5) (hv:v.kind=5) (ik:x.mems.length<=9223372036854775807) (c1:v.items.length=x.mems.length) (c2:v.rest=[]) (hf:∀ (i:Nat) m u,x.mems[i]?=some m->v.items[i]?=some u->sA 188 [WB sn S,.int .i64 m.ty,.agg (pA u),.bool false] (.bool true)):sA 188 [WB sn S,.int .i64 t,.agg (pA v),.bool false] (.bool true):=by
 have kb:¬ t<0:=by omega
 simp only [sA,eA,qA,hk,hv] at hp g;refine wA (c:=dA) rfl rfl ?_;rw [qA];rw [c2] at hp ⊢;simp only [yo] at hp;simp [dA,-V,-y3,-y0,J,kb,ra,h0,g,hp,hk,hv,c1,c2];refine uA ?_;simp [SL,-V,-y3,-y0,J];refine bA x.mems.length (fun i s=>(s.env 3).v=.bool false/\(s.env 4).v=.ptr 4 1 0/\s.mem 4 1=some [⟨.sl sn (S.map eA),.no⟩]/\(s.env 6).v=.ptr 6 1 0/\s.mem 6 1=some ([⟨.int .i64 5,.no⟩,⟨.bool v.b,.no⟩,⟨.int .i64 v.i,.no⟩,⟨.str v.s,.no⟩,⟨.int .i64 v.id,.no⟩,⟨.sl v.kn (v.keys.map pA),.no⟩,⟨.sl v.xn (v.items.map pA),.no⟩,⟨.sl v.rn [],.no⟩])/\(s.env 150).v=.sl x.mn (x.mems.map nA)/\(s.env 151).v=.int .i64 x.mems.length/\(s.env 152).v=.int .i64 i)
  (fun e s=>e=.exit 3) (fun i hi s k h ih tc=>?_) _ _ ?_ (fun e s h=>?_)
 ·obtain ⟨e3,e4,m4,e6,m6,ar,tl,br⟩:=h;refine uA ?_;by_cases fa:i<x.mems.length
  ·have ga:(i:Int)<x.mems.length:=by omega
   have fe:i<v.items.length:=by omega
   have g1:(x.mems.map nA)[i]?=some (nA x.mems[i]):=by simp [fa]
   have g2:(v.items.map pA)[i]?=some (pA v.items[i]):=by simp [fe]
   have hw:=LA (i:=i);have hx:=hf i x.mems[i] v.items[i] (y4 fa) (y4 fe);generalize x.mems[i]=m at *
   generalize v.items[i]=u at *
   simp only [sA,nA,qA] at g1 g2 hx;simp [RF,-V,-y3,-y0,J,e3,e4,m4,e6,m6,ar,tl,br,ga,g1,g2,hx,hw];refine ih fa _ ⟨?_,?_,?_,?_,?_,?_,?_,?_⟩ <;> simp [e3,e4,m4,e6,m6,ar,tl]
  ·have ga:¬ (i:Int)<x.mems.length:=by omega
   simp [RF,-V,-y3,-y0,J,tl,br,ga];exact tc _ _ rfl
 ·simp [-V,-y3,-y0,J]
 ·subst h;simp [-V,-y3,-y0,J]
theorem fitsF6 (hk:x.kind=6) (hv:v.kind=6) (hm:sA 99 [.agg (eA x),.int .i64 v.id] (uT x.mems v.id)) (c1:0<=aC x.mems v.id) (c3:v.rest=[]) {m:bB} {u:Vl} (ti:x.mems[(aC x.mems v.id).toNat]?=some m) (hu:v.items=[u]) (hf:sA 188 [WB sn S,.int .i64 m.ty,.agg (pA u),.bool false] (.bool true)):sA 188 [WB sn S,.int .i64 t,.agg (pA v),.bool false] (.bool true):=by
 have kb:¬ t<0:=by omega
 simp only [sA,eA,qA,hk,hv] at hp g;refine wA (c:=dA) rfl rfl ?_;rw [qA];simp only [sA,eA,uT,hk] at hm;generalize aC x.mems v.id=ix at *
 simp only [c1,decide_true] at hm;have jk:max ix 0=ix:=Int.max_eq_left c1;rw [jk] at hm;have g2:(x.mems.map nA)[ix.toNat]?=some (nA m):=by rw [y8,ti]; rfl
 simp only [nA] at g2;simp only [sA,qA] at hf;rw [hu,c3] at hp ⊢;simp only [qA,yl,yo] at hp;simp [dA,-V,-y3,-y0,J,kb,ra,h0,g,hp,hk,hv,hm,g2,c1,hf,qA]
theorem fitsF8 (hk:x.kind=8) (hv:v.kind=8) (hr:v.rest=[]) (jk:x.max<=50) (am:∀ k∈v.keys,LE k.i) (he:sA 215 [WB sn S,.int .i64 x.elem,.sl v.xn (v.items.map pA),.bool false] (.bool true)) (nc:sA 215 [WB sn S,.int .i64 x.key,.sl v.kn (v.keys.map pA),.bool false] (.bool true)) (gf:(v.keys.length:Int)<=x.max) (c2:v.items.length=v.keys.length) (eu:kL v.keys=true):sA 188 [WB sn S,.int .i64 t,.agg (pA v),.bool false] (.bool true):=by
 have kb:¬ t<0:=by omega
 simp only [sA,eA,qA,hk,hv] at hp g;refine wA (c:=dA) rfl rfl ?_;rw [qA];simp only [hr,yo] at hp ⊢;simp only [sA] at he nc;have c1:¬ x.max<v.keys.length:=by omega
 have jo:v.keys.length<=50:=by omega
 simp [dA,-V,-y3,-y0,J,kb,ra,h0,g,hp,hk,hv,hr,c1,gf,c2,nc];refine bA (v.keys.length - 1) (fun i s=>(s.env 3).v=.bool false/\(s.env 4).v=.ptr 4 1 0/\s.mem 4 1=some [⟨.sl sn (S.map eA),.no⟩]/\(s.env 9).v=.ptr 9 3 0/\s.mem 9 3=some (MA x)/\(s.env 6).v=.ptr 6 1 0/\s.mem 6 1=some (bD v)/\(s.env 20).v=.int .i64 ((i + 1:Nat):Int)/\kL (v.keys.drop i)=true)
  (fun e s=>(e=.exit 5/\(s.env 3).v=.bool false/\(s.env 4).v=.ptr 4 1 0/\s.mem 4 1=some [⟨.sl sn (S.map eA),.no⟩]/\(s.env 9).v=.ptr 9 3 0/\s.mem 9 3=some (MA x)/\(s.env 6).v=.ptr 6 1 0/\s.mem 6 1=some (bD v))) (fun i hi s k h ih tc=>?_) _ _ ?_ (fun e s h=>?_)
 ·obtain ⟨e3,e4,m4,e9,m9,e6,m6,e20,hs⟩:=h;refine uA ?_;by_cases fa:i<v.keys.length - 1
  ·have ot:i<v.keys.length:=by omega
   have oq:i + 1<v.keys.length:=by omega
   have hx:=vcmp_ev v.keys[i] v.keys[i + 1] (am _ (y5 _)) (am _ (y5 _));have g1:(v.keys.map pA)[i]?=some (pA v.keys[i]):=by simp [ot]
   have g2:(v.keys.map pA)[i + 1]?=some (pA v.keys[i + 1]):=by simp [oq]
   rw [y9 ot,y9 oq,kL] at hs;have mg:(decide (fS v.keys[i] v.keys[i + 1]<0)&&kL (v.keys.drop (i + 1)))=true:=by rw [<- hs,y9 oq]
   clear hs;generalize v.keys[i]=a at *
   generalize v.keys[i + 1]=b at *
   obtain ⟨z,hz⟩:∃ z:Int,z=((i + 1:Nat):Int):=⟨_,rfl⟩;obtain ⟨y,hy⟩:∃ y:Int,y=(i:Int):=⟨_,rfl⟩;rw [<- hz] at e20;have bc:0<=z:=by omega
   have tg:0<=y:=by omega
   have ki:z<v.keys.length:=by omega
   have aq:IntKind.i64.wrap (z - 1)=y:=by rw [IntWalk.i64_in _ (by omega)]; omega
   have zi:IntKind.i64.wrap (z + 1)=((i + 1 + 1:Nat):Int):=by rw [IntWalk.i64_in _ (by omega)]; omega
   rw [show i=y.toNat from by omega] at g1;rw [show i + 1=z.toNat from by omega] at g2;simp only [sA,qA] at g1 g2 hx;simp only [y7,decide_eq_true_eq] at mg;have lf:¬ 0<=fS a b:=by omega
   simp [EF,-V,-y3,-y0,J,e6,m6,e20,ki,bc,tg,aq,g1,g2,hx,lf,zi];refine ih fa _ ⟨?_,?_,?_,?_,?_,?_,?_,?_,mg.2⟩ <;> simp [e6,m6,e3,e4,m4,e9,m9]
  ·obtain ⟨z,hz⟩:∃ z:Int,z=((i + 1:Nat):Int):=⟨_,rfl⟩;rw [<- hz] at e20;have ki:¬ z<v.keys.length:=by omega
   simp [EF,-V,-y3,-y0,J,e6,m6,e20,ki];exact tc _ _ ⟨rfl,by simp [e3],by simp [e4],by simp [m4],by simp [e9],by simp [m9],by simp [e6],by simp [m6]⟩
 ·simp [hk,hv,hr,eu]
 ·obtain ⟨rfl,e3,e4,m4,e9,m9,e6,m6⟩:=h;simp [-V,-y3,-y0,J,e3,e4,m4,e9,m9,e6,m6,he,hk]
end
theorem NO {f:Int->Vl->Bool}:∀ {l:List bB} {q:List Vl},QE f l q=true->∀ (i:Nat) m u,l[i]?=some m->q[i]?=some u->f m.ty u=true
 | [],_,_,i,m,u,h,_=>by simp at h
 | m :: r,[],_,i,_,u,_,h=>by simp at h
 | m :: r,v :: q,h,i,m',u,h1,h2=>by
  simp only [QE,y7] at h
  match i with
  | 0 =>
   simp at h1 h2;subst h1; subst h2;exact h.1
  | i + 1=>exact NO h.2 i m' u (by simpa using h1) (by simpa using h2)
theorem KN {f:Int->Vl->Bool} {m:Option bB} {a b:Bool} {l:List Vl} (h:pF f m a b l=true):∃ m' u,m=some m'/\l=[u]/\a=true/\b=true/\f m'.ty u=true:=by
 match l,m,h with
 | [u],some m',h =>
  simp only [pF,y7] at h;exact ⟨m',u,rfl,rfl,h.1.1,h.1.2,h.2⟩
theorem fitsF_ev (sn:Bool) (S:List gA) (hS:zP S):∀ (n:Nat) (t:Int) (v:Vl),RD S n t v=true->v.ok->v.i64->sA 188 [WB sn S,.int .i64 t,.agg (pA v),.bool false] (.bool true):=by
 intro n
 induction n with
 | zero=>intro t v h; simp [RD] at h
 | succ n ih =>
  intro t v h na nb;rw [RD] at h;simp only [y7,Bool.not_eq_true'] at h;obtain ⟨ho,h⟩:=h;obtain ⟨h0,ra⟩:0<=t/\¬ (S.length:Int)<=t:=by
   simp [tB] at ho;omega
  have fa:t.toNat<S.length:=by omega
  have jb:S[t.toNat]∈S:=y5 _;have g:(S.map eA)[t.toNat]?=some (eA S[t.toNat]):=by rw [y8,y4 fa]; rfl
  rw [y4 fa] at h;generalize S[t.toNat]=x at *
  obtain ⟨ah,ak⟩:=hS x jb;have cj:=JE ah;simp only [y7,decide_eq_true_eq] at h;obtain ⟨⟨hk,hz⟩,eb⟩:=h;have hp:=S3 v (by rw [hk]; exact cj);rw [hz] at hp;rw [Vl.ok_def] at na;rw [Vl.i64_def] at nb;obtain ⟨o1,o2,o3,o4,o5,o6⟩:=na;obtain ⟨j1,j2,j3⟩:=nb;have dg:∀ u∈v.items,∀ t',RD S n t' u=true->sA 188 [WB sn S,.int .i64 t',.agg (pA u),.bool false] (.bool true):=fun u hu t' hf=>ih t' u hf (o6 u hu) (j3 u hu)
  have nc:∀ u∈v.keys,∀ t',RD S n t' u=true->sA 188 [WB sn S,.int .i64 t',.agg (pA u),.bool false] (.bool true):=fun u hu t' hf=>ih t' u hf (o5 u hu) (j2 u hu)
  have oc:x.mems.length<=9223372036854775807:=ak.1.2.1;have bn:x.syms.length<=9223372036854775807:=ak.1.1;have hv:=hk;unfold lJ at eb;rcases kinds x.kind with e | e | e | e | e | e | e | e | e | e
  all_goals try rw [e] at hv
  all_goals try simp only [e] at eb
  all_goals try simp at eb
  ·exact fitsF1 sn S t x v h0 ra g hp e hv
  ·exact fitsF2 sn S t x v h0 ra g hp e hv eb.1 eb.2
  ·exact fitsF3 sn S t x v h0 ra g hp e hv eb
  ·exact fitsF4 sn S t x v h0 ra g hp e hv (sym_ev x v.id bn) eb
  ·exact fitsF5 sn S t x v h0 ra g hp e hv oc eb.1.1 eb.1.2 (fun i m u h1 h2=>dg u (yQ h2) m.ty (NO eb.2 i m u h1 h2))
  ·obtain ⟨m,u,g1,g2,g3,g4,g5⟩:=KN eb;exact fitsF6 sn S t x v h0 ra g hp e hv (mem_ev x v.id oc) (by simpa using g3) (by simpa using g4) g1 g2 (dg u (by rw [g2]; simp) m.ty g5)
  ·exact fitsF7 sn S t x v h0 ra g hp e hv (OS sn S x.elem v.items o2 v.xn fun u hu=>dg u hu x.elem (eb.2 u hu)) eb.1
  ·exact fitsF8 sn S t x v h0 ra g hp e hv (by simp [OC,hv] at hz; simp [hz]) (LS ah e) (fun u hu=>((Vl.i64_def u).1 (j2 u hu)).1) (OS sn S x.elem v.items o2 v.xn fun u hu=>dg u hu x.elem (eb.2 u hu)) (OS sn S x.key v.keys o1 v.kn fun u hu=>nc u hu x.key (eb.1.1.2 u hu)) eb.1.1.1.1 eb.1.1.1.2 eb.1.2
  ·exact fitsF9 sn S t x v h0 ra g hp e hv (OS sn S x.elem v.items o2 v.xn fun u hu=>dg u hu x.elem (eb.2 u hu)) eb.1
  ·exact absurd cj e
end
end Go.Proofs.YtjoaiabjebpbjaaGreat
