/- A part of the proof. -/
import Derived.Test.YtbhbeakhognieaaGreatWj
set_option linter.all false
set_option maxRecDepth 100000
set_option maxHeartbeats 8000000
open Option renaming bind_some → J
open List renaming range_succ → y0, map_map → y3, map_cons → yf, mem_cons → yg, length_append → yz, length_cons → yF, map_append → yH, eq_nil_of_length_eq_zero → yM
open Int renaming toNat_lt → y4, tmod_eq_emod_of_nonneg → yt
open Bool renaming and_eq_true → y7
open Nat renaming le_refl → yj
namespace Go.Proofs.YtbhbeakhognieaaGreat
open Go
section
section
variable {α:Type}
structure mM (bt:α->α->Bool):Prop where
 irr:∀ a,bt a a=false
 tr:∀ a b c,bt a b=true->bt b c=true->bt a c=true
 neg:∀ a b c,bt a b=false->bt b c=false->bt a c=false
theorem mM.asym {bt:α->α->Bool} (h:mM bt) {a b:α} (h1:bt a b=true):bt b a=false:=by
 cases h2:bt b a with
 | false=>rfl
 | true=>have:=h.tr _ _ _ h1 h2; rw [h.irr] at this; cases this
variable (bt:α->α->Bool) (imp:Nat->(Nat->α)->α)
def nO (l:Nat->α) (i:Nat):Nat->α:=fun j=>if j=i then (if bt (imp i l) (l i) then imp i l else l i) else l j
def swpB (l:Nat->α):Nat->Nat->α
 | 0=>l
 | i + 1=>nO bt imp (swpB l i) i
def rndB (N:Nat) (l:Nat->α):Nat->Nat->α
 | 0=>l
 | k + 1=>swpB bt imp (rndB N l k) N
structure UW (N:Nat) (good:(Nat->α)->Prop) (used:Nat->(Nat->α)->Nat->Prop) (dep:α->Nat):Prop where
 keep:∀ l i,good l->(∀ u,u<N->dep (l u)<=N)->i<N->bt (imp i l) (l i)=true->good (nO bt imp l i)
 rng:∀ l t u,good l->t<N->used t l u->u<N
 sup:∀ l t u,good l->t<N->used t l u->bt (imp t l) (l u)=false
 loc:∀ l t i,good l->t<N->i<N->bt (imp i l) (l i)=true->good (nO bt imp l i)->¬ used t (nO bt imp l i) i->bt (imp t (nO bt imp l i)) (imp t l)=false/\∀ u,used t l u->used t (nO bt imp l i) u
 dp:∀ l t,good l->t<N->dep (imp t l)<=1\/∃ u,used t l u/\dep (imp t l)<=dep (l u) + 1
variable {bt:α->α->Bool} {imp:Nat->(Nat->α)->α} {N:Nat} {good:(Nat->α)->Prop} {used:Nat->(Nat->α)->Nat->Prop} {dep:α->Nat}
def ChB (bt:α->α->Bool) (N:Nat) (l:Nat->α) (t m:Nat):Prop:=∃ P:List Nat,P.Nodup/\(∀ u∈P,u<N/\bt (l t) (l u)=false)/\m<=P.length
theorem FX:∀ (N:Nat) (P:List Nat),P.Nodup->(∀ u∈P,u<N)->P.length<=N
 | 0,[],_,_=>yj _
 | 0,u :: _,_,h=>absurd (h u (by simp)) (by omega)
 | N + 1,P,hn,h=>by
  have h1:(P.erase N).Nodup:=hn.erase N;have h2:∀ u∈P.erase N,u<N:=fun u hu=>by
   have h3:=h u (List.mem_of_mem_erase hu);have h4:u≠N:=(List.Nodup.mem_erase_iff hn).1 hu |>.1;omega
  have h3:=FX N _ h1 h2;by_cases hm:N∈P
  ·have:=List.length_erase_of_mem hm;omega
  ·rw [List.erase_of_not_mem hm] at h3;omega
structure gZ (bt:α->α->Bool) (imp:Nat->(Nat->α)->α) (N:Nat) (good:(Nat->α)->Prop) (used:Nat->(Nat->α)->Nat->Prop) (dep:α->Nat) (j i:Nat) (l:Nat->α) (c:Nat->Nat):Prop where
 g:good l
 ch:∀ t,t<N->ChB bt N l t (c t)
 dc:∀ t,t<N->ChB bt N l t (dep (l t))
 w:∀ t,t<N->bt (imp t l) (l t)=true->(j=0/\i<=t)\/∃ u,used t l u/\(if t<i then j + 1 else j)<=c u
theorem ChB.dep_le {l:Nat->α} {t m:Nat} (h:ChB bt N l t m):m<=N:=by
 obtain ⟨P,h1,h2,h3⟩:=h;have:=FX N P h1 fun u hu=>(h2 u hu).1
 omega
theorem ChB.more (hB:mM bt) {l:Nat->α} {i u m:Nat} {v:α} (hi:i<N) (hc:ChB bt N l u m) (hs:bt v (l u)=false) (hv:bt v (l i)=true):∃ P:List Nat,P.Nodup/\(∀ w∈P,w<N/\(w=i\/bt v (l w)=false))/\m + 1<=P.length:=by
 obtain ⟨P,h1,h2,h3⟩:=hc;have hP:∀ w∈P,bt v (l w)=false:=fun w hw=>hB.neg _ _ _ hs (h2 w hw).2
 refine ⟨i :: P,List.nodup_cons.2 ⟨fun hm=>?_,h1⟩,fun w hw=>?_,by simp; omega⟩
 ·have:=hP i hm;rw [hv] at this;cases this
 ·rcases yg.1 hw with rfl | hw
  ·exact ⟨hi,.inl rfl⟩
  ·exact ⟨(h2 w hw).1,.inr (hP w hw)⟩
theorem tZ {l:Nat->α} {i:Nat} (h:bt (imp i l) (l i)=true):nO bt imp l i i=imp i l:=by simp [nO,h]
theorem ET {l:Nat->α} {i j:Nat} (h:j≠i):nO bt imp l i j=l j:=by simp [nO,h]
theorem updB_no {l:Nat->α} {i:Nat} (h:bt (imp i l) (l i)=false):nO bt imp l i=l:=by
 funext j;unfold nO;split
 ·rename_i e; subst e; simp [h]
 ·rfl
theorem R6 (hB:mM bt) {l:Nat->α} {i:Nat} (hb:bt (imp i l) (l i)=true) {P:List Nat} (hP:∀ w∈P,w<N/\(w=i\/bt (imp i l) (l w)=false)):∀ w∈P,w<N/\bt (nO bt imp l i i) (nO bt imp l i w)=false:=fun w hw=>by
 refine ⟨(hP w hw).1,?_⟩;rw [tZ hb];by_cases e:w=i
 ·subst e;rw [tZ hb];exact hB.irr _
 ·rw [ET e];rcases (hP w hw).2 with h | h
  ·exact absurd h e
  ·exact h
theorem ChB.up (hB:mM bt) {l:Nat->α} {i t m:Nat} (hb:bt (imp i l) (l i)=true) (hti:t≠i) (h:ChB bt N l t m):ChB bt N (nO bt imp l i) t m:=by
 obtain ⟨P,h1,h2,h3⟩:=h;refine ⟨P,h1,fun w hw=>⟨(h2 w hw).1,?_⟩,h3⟩;rw [ET hti];by_cases e:w=i
 ·subst e;rw [tZ hb];exact hB.neg _ _ _ (h2 w hw).2 (hB.asym hb)
 ·rw [ET e];exact (h2 w hw).2
theorem gZ.step (hB:mM bt) (hI:UW bt imp N good used dep) {j i:Nat} {l:Nat->α} {c:Nat->Nat} (hi:i<N) (h:gZ bt imp N good used dep j i l c):∃ c',gZ bt imp N good used dep j (i + 1) (nO bt imp l i) c':=by
 cases hb:bt (imp i l) (l i) with
 | false =>
  rw [updB_no hb];refine ⟨c,h.g,h.ch,h.dc,fun t ht rp=>?_⟩;have ma:t≠i:=fun e=>by subst e; rw [hb] at rp; cases rp
  rcases h.w t ht rp with ⟨h0,h1⟩ | ⟨u,hu,h1⟩
  ·exact .inl ⟨h0,by omega⟩
  ·refine .inr ⟨u,hu,?_⟩;by_cases fa:t<i
   ·rw [if_pos fa] at h1;rw [if_pos (by omega)];exact h1
   ·rw [if_neg fa] at h1;rw [if_neg (by omega)];exact h1
 | true =>
  have hdep:∀ u,u<N->dep (l u)<=N:=fun u hu=>(h.dc u hu).dep_le
  have hg':=hI.keep l i h.g hdep hi hb;have one:ChB bt N (nO bt imp l i) i 1:=⟨[i],by simp,R6 hB hb (by simp [hi]),by simp⟩;have more:∀ u m,used i l u->ChB bt N l u m->ChB bt N (nO bt imp l i) i (m + 1):=fun u m hu hc=>by
   obtain ⟨P,h1,h2,h3⟩:=hc.more hB hi (hI.sup l i u h.g hi hu) hb;exact ⟨P,h1,R6 hB hb h2,h3⟩
  refine ⟨fun t=>if t=i then j + 1 else c t,hg',fun t ht=>?_,fun t ht=>?_,fun t ht rp=>?_⟩
  ·by_cases e:t=i
   ·subst e;simp only [if_true];rcases h.w t ht hb with ⟨h0,_⟩ | ⟨u,hu,h1⟩
    ·subst h0; exact one
    ·rw [if_neg (by omega)] at h1;obtain ⟨P,q1,q2,q3⟩:=more u (c u) hu (h.ch u (hI.rng l t u h.g ht hu));exact ⟨P,q1,q2,by omega⟩
   ·rw [if_neg e];exact (h.ch t ht).up hB hb e
  ·by_cases e:t=i
   ·subst e;rw [tZ hb];rcases hI.dp l t h.g ht with h0 | ⟨u,hu,h1⟩
    ·obtain ⟨P,q1,q2,q3⟩:=one;exact ⟨P,q1,q2,by omega⟩
    ·obtain ⟨P,q1,q2,q3⟩:=more u _ hu (h.dc u (hI.rng l t u h.g ht hu));exact ⟨P,q1,q2,by omega⟩
   ·rw [ET e];exact (h.dc t ht).up hB hb e
  ·by_cases zd:used t (nO bt imp l i) i
   ·by_cases e:t=i
    ·subst e;have:=hI.sup _ t t hg' ht zd;rw [this] at rp;cases rp
    ·refine .inr ⟨i,zd,?_⟩;simp only [if_true];split <;> omega
   ·obtain ⟨h1,h2⟩:=hI.loc l t i h.g ht hi hb hg' zd;by_cases e:t=i
    ·subst e;rw [tZ hb] at rp;rw [h1] at rp;cases rp
    ·rw [ET e] at rp;have hbt':bt (imp t l) (l t)=true:=by
      cases hx:bt (imp t l) (l t) with
      | true=>rfl
      | false=>rw [hB.neg _ _ _ h1 hx] at rp; cases rp
     rcases h.w t ht hbt' with ⟨h0,h3⟩ | ⟨u,hu,h3⟩
     ·exact .inl ⟨h0,by omega⟩
     ·have hui:u≠i:=fun e'=>by subst e'; exact zd (h2 u hu)
      refine .inr ⟨u,h2 u hu,?_⟩;simp only [if_neg hui];by_cases fa:t<i
      ·rw [if_pos fa] at h3;rw [if_pos (by omega)];exact h3
      ·rw [if_neg fa] at h3;rw [if_neg (by omega)];exact h3
theorem gZ.sweep (hB:mM bt) (hI:UW bt imp N good used dep) {j:Nat} {l:Nat->α} {c:Nat->Nat} (h:gZ bt imp N good used dep j 0 l c):∀ i,i<=N->∃ c',gZ bt imp N good used dep j i (swpB bt imp l i) c'
 | 0,_=>⟨c,h⟩
 | i + 1,hi=>by
  obtain ⟨c',h'⟩:=gZ.sweep hB hI h i (by omega);exact h'.step hB hI (by omega)
theorem gZ.rounds (hB:mM bt) (hI:UW bt imp N good used dep) {l:Nat->α} (hg:good l) (hd:∀ t,t<N->dep (l t)=0):∀ k,∃ c,gZ bt imp N good used dep k 0 (rndB bt imp N l k) c
 | 0=>⟨fun _=>0,hg,fun t _=>⟨[],by simp,by simp,by simp⟩,fun t ht=>⟨[],by simp,by simp,by simp [rndB,hd t ht]⟩,fun t _ _=>.inl ⟨rfl,by omega⟩⟩
 | k + 1=>by
  obtain ⟨c,h⟩:=gZ.rounds hB hI hg hd k;obtain ⟨c',h'⟩:=h.sweep hB hI N (yj _);refine ⟨c',h'.g,h'.ch,h'.dc,fun t ht rp=>?_⟩;rcases h'.w t ht rp with ⟨_,h1⟩ | ⟨u,hu,h1⟩
  ·omega
  ·rw [if_pos ht] at h1;exact .inr ⟨u,hu,by rw [if_neg (by omega)]; exact h1⟩
end
end
section
def rS (n:Int):List AV:=[.int .u8 n]
def Z0 (n:Int):UInt8:=UInt8.ofNat n.toNat
def ZZ:Nat->Int->List Int
 | 0,_=>[]
 | k + 1,n=>if 128<=n then (n % 128 + 128) :: ZZ k (n / 128) else [n]
def d6:Nat->Int->List Int
 | 0,_=>[]
 | k + 1,n=>if 0<n then d6 k (n / 256)++[n % 256] else []
def ZO (l:List Int):ByteArray:=⟨(l.map Z0).toArray⟩
def kW (n:Int):ByteArray:=ZO (ZZ 10 n)
def z9 (n:Int):ByteArray:=ZO (d6 8 n)
theorem lV:∀ l:List Int,bytesOf (l.map rS)=some (l.map Z0)
 | []=>rfl
 | n :: r=>by
  have ih:=lV r;rw [yf,show rS n=[AV.int .u8 n] from rfl,bytesOf]
  ·rfl
  ·exact ih
theorem F6 (l:List Int):iB 1 (l.map rS)=true:=KB _ _ _ fun _=>rfl
theorem FR (l:List Int):(ZO l).size=l.length:=by simp [ZO,ByteArray.size]
theorem M7:∀ k n,(ZZ k n).length<=k
 | 0,_=>yj _
 | k + 1,n=>by
  rw [ZZ];split
  ·have:=M7 k (n / 128);simp only [yF];omega
  ·simp
theorem j6:∀ k n,(d6 k n).length<=k
 | 0,_=>yj _
 | k + 1,n=>by
  rw [d6];split
  ·have:=j6 k (n / 256);simp only [yz,yF,List.length_nil];omega
  ·simp
theorem u8_in (n:Int):IntKind.u8.wrap n=n % 256:=rfl
section
variable {k:IntKind} {t:Bool} {a b:Int}
end
end
def bnd:Nat->Int
 | 0=>1
 | 1=>2
 | k + 2=>128 * bnd (k + 1)
def bnd8:Nat->Int
 | 0=>1
 | k + 1=>256 * bnd8 k
theorem bnd_le:∀ k,k<=10->bnd k<=18446744073709551616:=by
 intro k h;have:k=0\/k=1\/k=2\/k=3\/k=4\/k=5\/k=6\/k=7\/k=8\/k=9\/k=10:=by omega
 rcases this with rfl | rfl | rfl | rfl | rfl | rfl | rfl | rfl | rfl | rfl | rfl <;> decide
theorem bnd8_le:∀ k,k<=8->bnd8 k<=18446744073709551616:=by
 intro k h;have:k=0\/k=1\/k=2\/k=3\/k=4\/k=5\/k=6\/k=7\/k=8:=by omega
 rcases this with rfl | rfl | rfl | rfl | rfl | rfl | rfl | rfl | rfl <;> decide
theorem bigL_0:∀ k,d6 k 0=[]
 | 0=>rfl
 | k + 1=>rfl
theorem i5 (n0:Int) (h0:0<=n0/\n0<18446744073709551616):gA 180 [.int .u64 n0] (.str (kW n0)):=by
 refine rA (c:=HM) rfl rfl ?_;simp [HM,-J,-y4,-y3,y0];refine RA 9 (fun i s=>∃ m l,l.length=i/\l++ZZ (10 - i) m=ZZ 10 n0/\0<=m/\m<bnd (10 - i)/\(s.env 0).v=.int .u64 m/\((i=0/\(s.env 3).v=.sl true [])\/(0<i/\(s.env 3).v=.sl false (l.map rS)/\(s.env 3).a=.own 12 5)))
  (fun e s=>e=.exit 0/\∃ (i:Nat) (m:Int) (l:List Int),i<=9/\l.length=i/\l++[m]=ZZ 10 n0/\0<=m/\m<128/\(s.env 0).v=.int .u64 m/\((i=0/\(s.env 3).v=.sl true [])\/(0<i/\(s.env 3).v=.sl false (l.map rS)/\(s.env 3).a=.own 12 5))) (fun i hi s k h ih hk=>?_) _ _ ?_ (fun e s h=>?_)
 ·obtain ⟨m,l,hl,hp,oj,hmb,e0,e3⟩:=h;refine iA ?_;by_cases c:128<=m
  ·have hi9:i<9:=by
    rcases Nat.lt_or_ge i 9 with h | h
    ·exact h
    ·have:i=9:=by omega
     subst this;simp [bnd] at hmb;omega
   obtain ⟨j,hj⟩:∃ j,10 - i=j + 2:=⟨8 - i,by omega⟩;rw [hj,bnd] at hmb;rw [hj,ZZ,if_pos c] at hp;have hj1:10 - (i + 1)=j + 1:=by omega
   have h1:m.tmod 128=m % 128:=yt oj;have h2:IntKind.u64.wrap (m % 128)=m % 128:=GF _ (by omega);have h3:IntKind.u64.wrap (m % 128 + 128)=m % 128 + 128:=GF _ (by omega);have h4:IntKind.u8.wrap (m % 128 + 128)=m % 128 + 128:=by rw [u8_in]; omega
   have h5:m.tdiv 128=m / 128:=Int.tdiv_eq_ediv_of_nonneg oj;have h6:IntKind.u64.wrap (m / 128)=m / 128:=GF _ (by have:=bnd_le (j + 1) (by omega); omega);have oa:ZA 1 (i + 1)=true:=by rw [xA]; omega
   have q:=F6 l;rcases e3 with ⟨jg,e3⟩ | ⟨jg,e3,a3⟩
   ·subst jg;have fh:l=[]:=yM hl;subst fh;have r11:ZA 1 1=true:=by decide
    simp [XI,-J,-y4,-y3,y0,e0,e3,c,h1,h2,h3,h4,h5,h6,r11];refine ih hi9 _ ⟨m / 128,[]++[m % 128 + 128],by simp,by rw [hj1]; simpa using hp,by omega,by rw [hj1]; omega,?_,.inr ⟨by omega,?_,?_⟩⟩ <;> simp [rS]
   ·simp [XI,-J,-y4,-y3,y0,e0,e3,a3,c,h1,h2,h3,h4,h5,h6,hl,oa,q];refine ih hi9 _ ⟨m / 128,l++[m % 128 + 128],by simp [hl],by rw [hj1]; simpa using hp,by omega,by rw [hj1]; omega,?_,.inr ⟨by omega,?_,?_⟩⟩ <;> simp [rS]
  ·obtain ⟨j,hj⟩:∃ j,10 - i=j + 1:=⟨9 - i,by omega⟩;rw [hj,ZZ,if_neg c] at hp;simp [XI,-J,-y4,-y3,y0,e0,c];exact hk _ _ ⟨rfl,i,m,l,hi,hl,hp,oj,by omega,by simp [e0],by
    rcases e3 with ⟨jg,e3⟩ | ⟨jg,e3,a3⟩
    ·exact .inl ⟨jg,by simp [e3]⟩
    ·exact .inr ⟨jg,by simp [e3],by simp [a3]⟩⟩
 ·refine ⟨n0,[],rfl,rfl,h0.1,by simp [bnd]; omega,?_,.inl ⟨rfl,?_⟩⟩
  ·simp
  ·simp
 ·obtain ⟨rfl,i,m,l,hi,hl,hp,oj,pj,e0,e3⟩:=h;have hu8:IntKind.u8.wrap m=m:=by rw [u8_in]; omega
  have oa:ZA 1 (i + 1)=true:=by rw [xA]; omega
  have q:=F6 l;have hby:bytesOf (l.map rS++[[AV.int .u8 m]])=some ((ZZ 10 n0).map Z0):=by
   have:=lV (l++[m]);rw [hp,<- hp,yH] at this;simpa [rS,hp] using this
  rcases e3 with ⟨jg,e3⟩ | ⟨jg,e3,a3⟩
  ·subst jg;have fh:l=[]:=yM hl;subst fh;simp at hby;have r11:ZA 1 1=true:=by decide
   simp [-J,-y4,-y3,y0,e0,e3,hu8,hby,kW,ZO,r11]
  ·simp [-J,-y4,-y3,y0,e0,e3,a3,hu8,hl,oa,q,hby,kW,ZO]
theorem rbig_ev (n0:Int) (h0:0<=n0/\n0<18446744073709551616):gA 179 [.int .u64 n0] (.str (z9 n0)):=by
 refine rA (c:=GM) rfl rfl ?_;simp [GM,-J,-y4,-y3,y0];refine RA 8 (fun i s=>∃ m l,l.length=i/\d6 (8 - i) m++l=d6 8 n0/\0<=m/\m<bnd8 (8 - i)/\(s.env 0).v=.int .u64 m/\(s.env 3).v=.str (ZO l))
  (fun e s=>e=.exit 0/\(s.env 3).v=.str (z9 n0)) (fun i hi s k h ih hk=>?_) _ _ ?_ (fun e s h=>?_)
 ·obtain ⟨m,l,hl,hp,oj,hmb,e0,e3⟩:=h;refine iA ?_;by_cases c:0<m
  ·have hi8:i<8:=by
    rcases Nat.lt_or_ge i 8 with h | h
    ·exact h
    ·have:i=8:=by omega
     subst this;simp [bnd8] at hmb;omega
   obtain ⟨j,hj⟩:∃ j,8 - i=j + 1:=⟨7 - i,by omega⟩;rw [hj,bnd8] at hmb;rw [hj,d6,if_pos c] at hp;have hj1:8 - (i + 1)=j:=by omega
   have h1:m.tmod 256=m % 256:=yt oj;have h2:IntKind.u64.wrap (m % 256)=m % 256:=GF _ (by omega);have h4:IntKind.u8.wrap (m % 256)=m % 256:=by rw [u8_in]; omega
   have h5:m.tdiv 256=m / 256:=Int.tdiv_eq_ediv_of_nonneg oj;have h6:IntKind.u64.wrap (m / 256)=m / 256:=GF _ (by have:=bnd8_le j (by omega); omega);have tb:(ByteArray.mk #[Z0 (m % 256)]).size + (ZO l).size<=9223372036854775807:=by rw [FR]; show 1 + l.length<=_; omega
   have hcat:(ByteArray.mk #[Z0 (m % 256)])++ZO l=ZO ((m % 256) :: l):=by
    apply ByteArray.ext;simp [ZO]
   have hby:bytesOf [[AV.int .u8 (m % 256)]]=some [Z0 (m % 256)]:=rfl;simp [BL,-J,-y4,-y3,y0,e0,e3,c,h1,h2,h4,h5,h6,hby,tb,hcat];refine ih hi8 _ ⟨m / 256,(m % 256) :: l,by simp [hl],by rw [hj1]; simpa using hp,by omega,by rw [hj1]; omega,?_,?_⟩ <;> simp
  ·have hm:m=0:=by omega
   subst hm;rw [bigL_0,List.nil_append] at hp;subst hp;simp [BL,-J,-y4,-y3,y0,e0];exact hk _ _ ⟨rfl,by simp [e3,z9]⟩
 ·refine ⟨n0,[],rfl,by simp,h0.1,by simp [bnd8]; omega,?_,?_⟩
  ·simp
  ·simp [ZO]
 ·obtain ⟨rfl,e3⟩:=h;simp [-J,-y4,-y3,y0,e3]
def eF (p:ByteArray):ByteArray:=kW p.size++p
def BQ (id:Int) (c:Bool):Int:=if c then 2 * id + 1 else 2 * id
def sJ (id:Int) (c:Bool) (p:ByteArray):ByteArray:=kW (BQ id c)++eF p
def wN (m:zB) (v:Vl):Bool:=m.has&&m.dflt.same v
def eB:ByteArray:=⟨#[]⟩
def GI (f:Int->Vl->ByteArray):List zB->List Vl->ByteArray->ByteArray
 | m :: r,v :: q,b=>GI f r q (if wN m v then b else b++sJ m.id m.crit (f m.ty v))
 | _,_,b=>b
def eH (f:Vl->ByteArray):List Vl->ByteArray->ByteArray
 | [],b=>b
 | v :: r,b=>eH f r (b++eF (f v))
def fJ (f g:Vl->ByteArray):List Vl->List Vl->ByteArray->ByteArray
 | k :: r,v :: q,b=>fJ f g r q (b++eF (f k)++eF (g v))
 | _,_,b=>b
def armB (f:Int->Vl->ByteArray):Option zB->List Vl->ByteArray
 | some m,u :: _=>f m.ty u
 | _,_=>eB
def optB (f:Vl->ByteArray):List Vl->ByteArray
 | u :: _=>⟨#[1]⟩++f u
 | []=>eB
def ZH (f:Int->Vl->ByteArray) (x:pA) (v:Vl):ByteArray :=
 if x.kind=1 then (if v.b then ⟨#[1]⟩ else eB)
 else if x.kind=2 then z9 (dZ v.i)
 else if x.kind=3 then v.s
 else if x.kind=4 then z9 v.id
 else if x.kind=5 then GI f x.mems v.items eB
 else if x.kind=6 then kW v.id++armB f x.mems[(QA x.mems v.id).toNat]? v.items
 else if x.kind=9 then optB (f x.elem) v.items
 else if x.kind=7 then eH (f x.elem) v.items eB
 else fJ (f x.key) (f x.elem) v.keys v.items eB
def sM (S:List pA):Nat->Int->Vl->ByteArray
 | 0,_,_=>eB
 | n + 1,t,v=>match S[t.toNat]? with
  | some x=>ZH (sM S n) x v
  | none=>eB
def recD (f:Int->Vl->Nat):List zB->List Vl->Nat->Nat
 | m :: r,v :: q,b=>recD f r q (if wN m v then b else max b (f m.ty v))
 | _,_,b=>b
def listD (f:Vl->Nat):List Vl->Nat->Nat
 | [],b=>b
 | v :: r,b=>listD f r (max b (f v))
def mapD (f g:Vl->Nat):List Vl->List Vl->Nat->Nat
 | k :: r,v :: q,b=>mapD f g r q (max (max b (f k)) (g v))
 | _,_,b=>b
def armD (f:Int->Vl->Nat):Option zB->List Vl->Nat
 | some m,u :: _=>f m.ty u
 | _,_=>0
def optD (f:Vl->Nat):List Vl->Nat
 | u :: _=>f u
 | []=>0
def depK (f:Int->Vl->Nat) (x:pA) (v:Vl):Nat :=
 if x.kind=5 then 1 + recD f x.mems v.items 0
 else if x.kind=6 then 1 + armD f x.mems[(QA x.mems v.id).toNat]? v.items
 else if x.kind=9 then 1 + optD (f x.elem) v.items
 else if x.kind=7 then 1 + listD (f x.elem) v.items 0
 else if x.kind=8 then 1 + mapD (f x.key) (f x.elem) v.keys v.items 0
 else 1
def depN (S:List pA):Nat->Int->Vl->Nat
 | 0,_,_=>1
 | n + 1,t,v=>match S[t.toNat]? with
  | some x=>depK (depN S n) x v
  | none=>1
theorem SN (n:Int):(kW n).size<=10:=by
 unfold kW;rw [FR];exact M7 10 n
theorem K0 (n:Int):(z9 n).size<=8:=by
 unfold z9;rw [FR];exact j6 8 n
theorem XE (p:ByteArray):p.size<=(eF p).size/\(eF p).size<=p.size + 10:=by
 have:=SN p.size;unfold eF;rw [ByteArray.size_append];omega
theorem MM (id:Int) (c:Bool) (p:ByteArray):p.size<=(sJ id c p).size/\(sJ id c p).size<=p.size + 20:=by
 have:=SN (BQ id c);have:=XE p;unfold sJ;rw [ByteArray.size_append];omega
theorem J2 (f:Int->Vl->ByteArray):∀ (l:List zB) (q:List Vl) (b:ByteArray),b.size<=(GI f l q b).size
 | [],q,b=>by cases q <;> exact yj _
 | m :: r,[],b=>yj _
 | m :: r,v :: q,b=>by
  have:=J2 f r q (if wN m v then b else b++sJ m.id m.crit (f m.ty v));rw [GI];split at this
  ·rename_i h; rw [if_pos h]; exact this
  ·rename_i h;rw [if_neg h];rw [ByteArray.size_append] at this;omega
theorem zR (f:Vl->ByteArray):∀ (l:List Vl) (b:ByteArray),b.size<=(eH f l b).size
 | [],b=>yj _
 | v :: r,b=>by
  have:=zR f r (b++eF (f v));rw [ByteArray.size_append] at this;rw [eH];omega
theorem iU (f g:Vl->ByteArray):∀ (l q:List Vl) (b:ByteArray),b.size<=(fJ f g l q b).size
 | [],q,b=>by cases q <;> exact yj _
 | k :: r,[],b=>yj _
 | k :: r,v :: q,b=>by
  have:=iU f g r q (b++eF (f k)++eF (g v));rw [ByteArray.size_append,ByteArray.size_append] at this;rw [fJ];omega
theorem cT (p:ByteArray) (h:p.size<=140737488355328):gA 181 [.str p] (.str (eF p)):=by
 have h1:IntKind.u64.wrap (p.size:Int)=p.size:=GF _ (by omega);have h2:=i5 p.size (by omega);have h3:(kW p.size).size + p.size<=9223372036854775807:=by have:=SN p.size; omega
 simp only [gA] at h2;refine rA (c:=cL) rfl rfl ?_;simp [cL,-J,-y4,-y3,y0,h1,h2,h3,eF]
theorem B2 (id:Int) (KR:1<=id/\id<=1000) (c:Bool) (p:ByteArray) (h:p.size<=140737488355328):gA 182 [.int .i64 id,.bool c,.str p] (.str (sJ id c p)):=by
 have h1:IntKind.i64.wrap (2 * id)=2 * id:=IntWalk.i64_in _ (by omega);have h2:IntKind.u64.wrap (2 * id)=2 * id:=GF _ (by omega);have h3:IntKind.u64.wrap (2 * id + 1)=2 * id + 1:=GF _ (by omega);have h4:=i5 (BQ id c) (by unfold BQ; split <;> omega);have h5:=cT p h;have h6:(kW (BQ id c)).size + (eF p).size<=9223372036854775807:=by have:=SN (BQ id c); have:=XE p; omega
 simp only [gA] at h4 h5;refine rA (c:=DH) rfl rfl ?_;cases c with
 | true =>
  simp only [BQ,if_true] at h4 h6;simp [DH,-J,-y4,-y3,y0,h1,h2,h3,h4,h5,h6,sJ,BQ]
 | false =>
  simp [BQ] at h4 h6;simp [DH,-J,-y4,-y3,y0,h1,h2,h4,h5,h6,sJ,BQ]
theorem same_comm:∀ (n:Nat) (v w:Vl),SizeOf.sizeOf v<n->v.same w=w.same v:=by
 intro n
 induction n with
 | zero=>intro v w h; omega
 | succ n ih =>
  have hl:∀ (l m:List Vl),(∀ x∈l,SizeOf.sizeOf x<n)->Vl.sames l m=Vl.sames m l:=fun l=>by
   induction l with
   | nil=>intro m _; cases m <;> simp [Vl.sames]
   | cons x r ihr =>
    intro m h;cases m with
    | nil=>simp [Vl.sames]
    | cons y q=>rw [Vl.sames,Vl.sames,ih x y (h x (by simp)),ihr q (fun z hz=>h z (by simp [hz]))]
  intro v w h;rw [Vl.same_def,Vl.same_def,hl v.keys w.keys (fun x hx=>by have:=Vl.keys_lt v x hx; omega),hl v.items w.items (fun x hx=>by have:=Vl.items_lt v x hx; omega)];have e1:(decide (v.kind=w.kind))=decide (w.kind=v.kind):=decide_eq_decide.2 eq_comm;have e2:(v.b == w.b)=(w.b == v.b):=by cases v.b <;> cases w.b <;> rfl
  have e3:(decide (v.i=w.i))=decide (w.i=v.i):=decide_eq_decide.2 eq_comm;have e4:(decide (v.s=w.s))=decide (w.s=v.s):=decide_eq_decide.2 eq_comm;have e5:(decide (v.id=w.id))=decide (w.id=v.id):=decide_eq_decide.2 eq_comm;have e6:(decide (v.rest=w.rest))=decide (w.rest=v.rest):=decide_eq_decide.2 eq_comm;rw [e1,e2,e3,e4,e5,e6]
theorem same_sym (v w:Vl):v.same w=w.same v:=same_comm (SizeOf.sizeOf v + 1) v w (by omega)
section
section
variable (sn:Bool) (S:List pA) (t:Int)
variable (x:pA) (v:Vl) (h0:0<=t) (gb:¬ (S.length:Int)<=t) (g:(S.map eA)[t.toNat]?=some (eA x)) (hp:gA 207 [.agg (fA v)] (.bool true))
include h0 gb g hp
end
theorem lY {f:Int->Vl->Bool}:∀ {l:List zB} {q:List Vl},BD f l q=true->∀ (i:Nat) m u,l[i]?=some m->q[i]?=some u->f m.ty u=true
 | [],_,_,i,m,u,h,_=>by simp at h
 | m :: r,[],_,i,_,u,_,h=>by simp at h
 | m :: r,v :: q,h,i,m',u,h1,h2=>by
  simp only [BD,y7] at h
  match i with
  | 0 =>
   simp at h1 h2;subst h1; subst h2;exact h.1
  | i + 1=>exact lY h.2 i m' u (by simpa using h1) (by simpa using h2)
theorem MZ {f:Int->Vl->Bool} {m:Option zB} {a b:Bool} {l:List Vl} (h:uD f m a b l=true):∃ m' u,m=some m'/\l=[u]/\a=true/\b=true/\f m'.ty u=true:=by
 match l,m,h with
 | [u],some m',h =>
  simp only [uD,y7] at h;exact ⟨m',u,rfl,rfl,h.1.1,h.1.2,h.2⟩
end
end Go.Proofs.YtbhbeakhognieaaGreat
