/- Part of the proof: the machine, the code of functions, and what it computes. -/
import Derived.Test.YtbnlmgncbgaepaaGreatSe
import Derived.ProofKit
import Derived.JoinedCond
set_option linter.unusedSimpArgs false
set_option linter.unusedVariables false
set_option linter.unusedSectionVars false
set_option maxRecDepth 100000
set_option maxHeartbeats 8000000
open Option renaming bind_some → y0
open List renaming range_succ → y3, map_map → y4, getElem?_eq_getElem → y7, getElem_mem → y8, getElem?_eq_some_iff → ye, getElem?_map → yf, mem_cons → yj, map_cons → yk, mem_cons_self → yl, map_nil → yn, mem_of_getElem? → yo, mem_cons_of_mem → yp, length_append → yu, length_map → yx, mem_map → yz, mem_append → yA, getElem_of_mem → yC, length_take → yD, getElem?_append_left → yM, take_of_length_le → yO, eq_nil_of_length_eq_zero → yP, take_append_getElem → yR
open Int renaming toNat_lt → y5, tmod_eq_emod_of_nonneg → yw, emod_nonneg → yI, emod_lt_of_pos → yN
open Bool renaming and_eq_true → yb, false_eq_true → yr
namespace Go.Proofs.YtbnlmgncbgaepaaGreat
open Go
theorem key_neg {l:List Nde} {code:Int}:∀ n k,q3W l code n k<0->(∀ m,0<=(code + (m:Int)) % l.length)->∀ m:Nat,k<=m->m<k + n->isKey (kdAt l ((code + m) % l.length))=false
 | 0,k,_,_,m,h1,h2=>by omega
 | n + 1,k,h,hp,m,h1,h2=>by
  simp only [q3W] at h;split at h
  ·have:=hp k; omega
  ·rename_i hk;by_cases e:m=k
   ·subst e;simpa using hk
   ·exact key_neg n (k + 1) h hp m (by omega) (by omega)
theorem key_is {l:List Nde} {code:Int}:∀ n k,0<=q3W l code n k->isKey (kdAt l (q3W l code n k))=true
 | 0,k,h=>by simp [q3W] at h
 | n + 1,k,h=>by
  simp only [q3W] at h ⊢;split
  ·assumption
  ·rename_i hk;rw [if_neg hk] at h;exact key_is n (k + 1) h
theorem keyZ_neg {l:List Nde} (hl:oks l) {c:Int} (hc:0<=c) (h:keyZ l c<0) {z:Int} (h0:0<=z) (h1:z<l.length):isKey (kdAt l z)=false:=by
 have hp:=hl.1;have hn:(l.length:Int)≠0:=by omega
 have hpos:∀ m,0<=(c + (m:Int)) % l.length:=fun m=>yI _ hn
 have:=key_neg (l:=l) (code:=c) l.length 0 h hpos ((z - c) % l.length).toNat (by omega) (by
  have:=yN (z - c) (b:=(l.length:Int)) (by omega);omega)
 have h2:=yI (z - c) hn;rw [show (((z - c) % l.length).toNat:Int)=(z - c) % l.length from by omega,Int.add_emod_emod] at this;rw [show c + (z - c)=z from by omega,Int.emod_eq_of_lt h0 h1] at this;exact this
theorem keyZ_some {l:List Nde} (hl:oks l) {c d:Int} (hc:0<=c) (hd:0<=d) (h:keyZ l c<0):keyZ l d<0:=by
 by_cases h':keyZ l d<0
 ·exact h'
 ·have h1:=key_is (l:=l) (code:=d) l.length 0 (by simpa [keyZ] using h');have h2:=q8v hl d l.length 0;have h3:=keyZ_neg hl hc h (z:=keyZ l d) (by omega) (by unfold keyZ; omega);unfold keyZ at h3;rw [h3] at h1;cases h1
structure TypD (l:List Nde) (i:Nat) (b:Typ):Prop where
 good:q0Q b=true
 nm:b.named=true->b.name=q7t (i:Int)
 uses:∀ u∈b.usesL,0<=u/\u<l.length
 key:b.kind=8->isKey (kdAt l b.key)=true
theorem q7a {n:Nat} {bs:List Mem} (h:rwL n [] bs):bs=[]:=yP h.1.symm
theorem mem_uses {l:List Nde} (hl:oks l) {i:Nat} (hi:i<l.length) {rc:Bool} {ps:List Prt} {bs:List Mem} (h:rwL l.length (q3i l (i:Int) rc ps) bs):∀ u∈bs.map Mem.ty,0<=u/\u<l.length:=fun u hu=>by
 obtain ⟨b,hb,rfl⟩:=yz.1 hu;obtain ⟨j,hj,rfl⟩:=yC hb;have hja:j<(q3i l (i:Int) rc ps).length:=by rw [h.1]; exact hj
 have hm:=h.2 j _ _ (y7 hja) (y7 hj);obtain ⟨id,p,_,_,_,hp,he⟩:=q6I 12 _ (y8 hja);rcases hm.2.2.2 with h4 | ⟨h4,h5,_⟩
 ·rw [h4,he];simp only [q74,decide_eq_true_eq] at hp;exact ⟨hp.2,(q9r hl (i:Int) p.ty (by omega)).2⟩
 ·exact ⟨h4,h5⟩
theorem typ_d {l:List Nde} (hl:oks l) {i:Nat} (hi:i<l.length) {b:Typ} (h:rwT l.length (typZ l (i:Int)) b):TypD l i b:=by
 obtain ⟨bs,hrw,rfl⟩:=h;have hx:=q3w hl hi;obtain ⟨xk,xa,xb,xc,_⟩:=hx0 _ hx;have hl5:=hl.2.1;have hn:(l.length:Int)≠0:=by omega
 have hkr:=kind_rng hx;have hnm:q3E (q7t (i:Int))=true:=tName_ok ⟨i,by omega⟩;have hsy:q8m (q6s (ndAt l (i:Int)).a)=true:=by
  have:=symsZ_ok ⟨(ndAt l (i:Int)).a.toNat,by have:=xa.2; have:=xa.1; omega⟩
  rwa [show (((ndAt l (i:Int)).a.toNat:Nat):Int)=(ndAt l (i:Int)).a from by have:=xa.1; omega] at this
 have helem:0<=(ndAt l (i:Int)).c % l.length/\(ndAt l (i:Int)).c % l.length<l.length:=⟨yI _ hn,yN _ (by omega)⟩;unfold typZ at hrw ⊢;generalize ndAt l (i:Int)=x at *
 by_cases k1:x.kind=1
 ·simp only [k1] at hrw ⊢;obtain rfl:=q7a hrw;exact ⟨by simp [q0Q,q6O,Typ.left,Typ.same,q1M,Typ.of,q0E],fun h=>by simp [Typ.named,Typ.of] at h,fun u hu=>by simp [Typ.usesL,Typ.of] at hu,fun h=>by simp [Typ.of] at h⟩
 by_cases k2:x.kind=2
 ·simp only [k2] at hrw ⊢;obtain rfl:=q7a hrw;have hlh:x.low<=x.high:=by
   simp only [Nde.high];have:=yI x.b (show (6:Int)≠0 by decide);omega
  exact ⟨by simp [q0Q,q6O,Typ.left,Typ.same,q1M,Typ.of,q0E,hlh],fun h=>by simp [Typ.named,Typ.of] at h,fun u hu=>by simp [Typ.usesL,Typ.of] at hu,fun h=>by simp [Typ.of] at h⟩
 by_cases k3:x.kind=3
 ·simp only [k3] at hrw ⊢;obtain rfl:=q7a hrw;exact ⟨by simp [q0Q,q6O,Typ.left,Typ.same,q1M,Typ.of,q0E]; omega,fun h=>by simp [Typ.named,Typ.of] at h,fun u hu=>by simp [Typ.usesL,Typ.of] at hu,fun h=>by simp [Typ.of] at h⟩
 by_cases k4:x.kind=4
 ·simp only [k4] at hrw ⊢;obtain rfl:=q7a hrw;exact ⟨by simp [q0Q,q6O,Typ.left,Typ.same,q1M,Typ.of,q0E,hnm,hsy],fun h=>by simp [Typ.of],fun u hu=>by simp [Typ.usesL,Typ.of] at hu,fun h=>by simp [Typ.of] at h⟩
 by_cases k5:x.kind=5
 ·simp only [k5] at hrw ⊢;have hg:=mems_good hrw (.inl rfl);have hu:=mem_uses hl hi hrw;exact ⟨by simp [q0Q,q6O,Typ.left,Typ.same,q1M,Typ.of,q0E,hnm,hg],fun h=>by simp [Typ.of],fun u h=>hu u (by simpa [Typ.usesL,Typ.of] using h),fun h=>by simp [Typ.of] at h⟩
 by_cases k6:x.kind=6
 ·simp only [k6] at hrw ⊢;by_cases he:(q3i l (i:Int) false x.parts).isEmpty=true
  ·simp only [he,if_true] at hrw ⊢;obtain rfl:=q7a hrw;exact ⟨by simp [q0Q,q6O,Typ.left,Typ.same,q1M,Typ.of,q0E,hnm,q5R,q1W],fun h=>by simp [Typ.of],fun u hu=>by simp [Typ.usesL,Typ.of] at hu,fun h=>by simp [Typ.of] at h⟩
  ·simp only [he,if_false,yr] at hrw ⊢;have hne:bs≠[]:=fun e=>by
    rw [e] at hrw;have:=hrw.1;simp only [List.length_nil] at this;rw [yP this] at he;simp at he
   have hg:=mems_good hrw (.inr hne);have hu:=mem_uses hl hi hrw;exact ⟨by simp [q0Q,q6O,Typ.left,Typ.same,q1M,Typ.of,q0E,hnm,hg],fun h=>by simp [Typ.of],fun u h=>hu u (by simpa [Typ.usesL,Typ.of] using h),fun h=>by simp [Typ.of] at h⟩
 by_cases k7:x.kind=7
 ·simp only [k7] at hrw ⊢;obtain rfl:=q7a hrw;exact ⟨by simp [q0Q,q6O,Typ.left,Typ.same,q1M,Typ.of,q0E]; omega,fun h=>by simp [Typ.named,Typ.of] at h,fun u hu=>by simp [Typ.usesL,Typ.of] at hu; rw [hu]; exact helem,fun h=>by simp [Typ.of] at h⟩
 by_cases k8:x.kind=8
 ·simp only [k8] at hrw ⊢;by_cases hc:keyZ l x.b<0
  ·simp only [if_pos hc] at hrw ⊢;obtain rfl:=q7a hrw;exact ⟨by simp [q0Q,q6O,Typ.left,Typ.same,q1M,Typ.of,q0E]; omega,fun h=>by simp [Typ.named,Typ.of] at h,fun u hu=>by simp [Typ.usesL,Typ.of] at hu; rw [hu]; exact helem,fun h=>by simp [Typ.of] at h⟩
  ·simp only [if_neg hc] at hrw ⊢;obtain rfl:=q7a hrw;have hkr:=q8v hl x.b l.length 0;refine ⟨by simp [q0Q,q6O,Typ.left,Typ.same,q1M,Typ.of,q0E]; omega,fun h=>by simp [Typ.named,Typ.of] at h,fun u hu=>?_,fun h=>key_is l.length 0 (by simpa [keyZ] using hc)⟩;simp [Typ.usesL,Typ.of] at hu;rcases hu with rfl | rfl
   ·exact ⟨by omega,hkr.2⟩
   ·exact helem
 have k9:x.kind=9:=by omega
 simp only [k9] at hrw ⊢;obtain rfl:=q7a hrw;exact ⟨by simp [q0Q,q6O,Typ.left,Typ.same,q1M,Typ.of,q0E],fun h=>by simp [Typ.named,Typ.of] at h,fun u hu=>by simp [Typ.usesL,Typ.of] at hu; rw [hu]; exact helem,fun h=>by simp [Typ.of] at h⟩
theorem kdAt_nd (l:List Nde) {j:Nat} (hj:j<l.length):kdAt l (j:Int)=(ndAt l (j:Int)).kind:=by
 simp [kdAt,ndAt,y7 hj]
theorem q9t (l:List Nde) {j:Nat} (hj:j<l.length):(typZ l (j:Int)).kind=(if kdAt l (j:Int)=6/\(q3i l (j:Int) false (ndAt l (j:Int)).parts).isEmpty=true then 5 else if kdAt l (j:Int)=8/\keyZ l (ndAt l (j:Int)).b<0 then 7 else if 1<=kdAt l (j:Int)/\kdAt l (j:Int)<=8 then kdAt l (j:Int) else 9):=by
 rw [kdAt_nd l hj];unfold typZ;generalize ndAt l (j:Int)=x;simp only;split
 ·rename_i h; simp [h,Typ.of]
 ·rename_i h; simp [h,Typ.of]
 ·rename_i h; simp [h,Typ.of]
 ·rename_i h; simp [h,Typ.of]
 ·rename_i h; simp [h,Typ.of]
 ·rename_i h;split
  ·rename_i h'; simp [h,h',Typ.of]
  ·rename_i h'; simp [h,h',Typ.of]
 ·rename_i h; simp [h,Typ.of]
 ·rename_i h;split
  ·rename_i h'; simp [h,h',Typ.of]
  ·rename_i h'; simp [h,h',Typ.of]
 ·rename_i h1 h2 h3 h4 h5 h6 h7 h8;have e6:¬ x.kind=6:=h6;have e8:¬ x.kind=8:=h8;have hr:¬ (1<=x.kind/\x.kind<=8):=fun ⟨a,b⟩=>by
   have q1:¬ x.kind=1:=h1;have q2:¬ x.kind=2:=h2;have q3:¬ x.kind=3:=h3;have q4:¬ x.kind=4:=h4;have q5:¬ x.kind=5:=h5;have q7:¬ x.kind=7:=h7;omega
  simp [e6,e8,hr,Typ.of]
theorem rwS_len {n:Nat} {l:List Nde} {T:List Typ} (h:rwS n (q0d l) T):T.length=l.length:=by
 have:=h.1;simp [q0d] at this;exact this.symm
theorem qa2 {l:List Nde} {T:List Typ} (h:rwS l.length (q0d l) T) {i:Nat} (hi:i<T.length):rwT l.length (typZ l (i:Int)) T[i]:=by
 have hi':i<l.length:=by rw [<- rwS_len h]; exact hi
 exact h.2 i _ _ (by simp [q0d,hi']) (y7 hi)
theorem rwT_kind {n:Nat} {a b:Typ} (h:rwT n a b):b.kind=a.kind:=by
 obtain ⟨bs,_,rfl⟩:=h;rfl
theorem qas {l:List Typ} (h:∀ i,(hi:i<l.length)->q1X l i l[i]=0):∀ n i,q1L l n i=0
 | 0,i=>rfl
 | n + 1,i=>by
  rw [q1L];by_cases hi:i<l.length
  ·rw [y7 hi];simp only [h i hi,if_true];exact qas h n (i + 1)
  ·rw [List.getElem?_eq_none (by omega)]
theorem rwS_valid {l:List Nde} (hl:oks l) {T:List Typ} (h:rwS l.length (q0d l) T):valid T=0:=by
 have hl5:=hl.2.1;have hlen:=rwS_len h;unfold valid;rw [if_neg (by omega)];refine qas (fun i hi=>?_) _ _;have hd:∀ j,(hj:j<T.length)->TypD l j T[j]:=fun j hj=>typ_d hl (by omega) (qa2 h hj)
 obtain ⟨hg,hnm,hu,hk⟩:=hd i hi;unfold q1X;rw [if_neg (by rw [hg]; decide)];rw [if_neg]
 ·rw [if_neg]
  ·rw [if_neg];rintro ⟨h8,hn⟩;have hkey:=hk h8;have huk:=hu T[i].key (by simp [Typ.usesL,h8]);have hkl:T[i].key.toNat<T.length:=by omega
   apply hn;unfold q5N;rw [y7 hkl];simp only;rw [rwT_kind (qa2 h hkl),q9t l (by omega)];rw [show ((T[i].key.toNat:Nat):Int)=T[i].key from by omega];simp only [isKey,decide_eq_true_eq] at hkey;rw [if_neg (by omega),if_neg (by omega),if_pos (by omega)];exact hkey
  ·intro hany;obtain ⟨u,hmem,ho⟩:=List.any_eq_true.1 hany;have:=hu u hmem;simp only [q0L,Bool.or_eq_true,decide_eq_true_eq] at ho;omega
 ·rintro ⟨hn,hmem⟩;rw [yz] at hmem;obtain ⟨b,hb,he⟩:=hmem;obtain ⟨j,hj,rfl⟩:=yC hb;rw [yD] at hj;rw [List.getElem_take] at he;have hjT:j<T.length:=by omega
  obtain ⟨hgj,hnmj,_,_⟩:=hd j hjT;rw [hnm hn] at he;have hbn:T[j].named=true:=by
   cases hc:T[j].named with
   | true=>rfl
   | false =>
    have hi':=tName_ok ⟨i,by omega⟩;simp only at hi';rw [<- he] at hi';have hno:T[j].name=⟨#[]⟩:=by
     unfold q0Q at hgj;simp only [Typ.named,Bool.or_eq_false_iff,decide_eq_false_iff_not] at hc;simp only [yb,decide_eq_true_eq] at hgj;have hs:=hgj.2.2;unfold Typ.left at hs;obtain ⟨⟨c4,c5⟩,c6⟩:=hc;simp only [c4,c5,c6,if_false] at hs;split at hs
     ·simp only [Typ.same,q1M,yb,decide_eq_true_eq] at hs; exact of_decide_eq_true hs.1.1.1.1.1.1.1.1.2
     ·split at hs
      ·simp only [Typ.same,q1M,yb,decide_eq_true_eq] at hs; exact of_decide_eq_true hs.1.1.1.1.1.1.1.1.2
      ·split at hs
       ·simp only [Typ.same,q1M,yb,decide_eq_true_eq] at hs; exact of_decide_eq_true hs.1.1.1.1.1.1.1.1.2
       ·split at hs
        ·simp only [Typ.same,q1M,yb,decide_eq_true_eq] at hs; exact of_decide_eq_true hs.1.1.1.1.1.1.1.1.2
        ·split at hs
         ·simp only [Typ.same,q1M,yb,decide_eq_true_eq] at hs; exact of_decide_eq_true hs.1.1.1.1.1.1.1.1.2
         ·simp only [Typ.same,q1M,yb,decide_eq_true_eq] at hs; exact of_decide_eq_true hs.1.1.1.1.1.1.1.1.2
    rw [hno] at hi';exact absurd hi' (by decide)
  have:=tName_inj ⟨j,by omega⟩ ⟨i,by omega⟩ (by simp only; rw [<- hnmj hbn,he]);have:=congrArg Fin.val this;simp only at this;omega
theorem idxI_mem {α:Type} (p:α->Bool):∀ l:List α,(∃ x∈l,p x=true)->0<=idxI p l
 | [],h=>by obtain ⟨x,hx,_⟩:=h; cases hx
 | x :: r,h=>by
  have hg:=q3h p r;unfold idxI;by_cases hp:p x=true
  ·rw [if_pos hp]; exact Int.le_refl 0
  ·rw [if_neg hp];have:0<=idxI p r:=idxI_mem p r (by
    obtain ⟨y,hy,hpy⟩:=h;rcases yj.1 hy with rfl | hy
    ·exact absurd hpy hp
    ·exact ⟨y,hy,hpy⟩)
   rw [if_neg (by omega)];omega
theorem idAt_mem (a c:Int) (hc:0<=c):0<=q5c (q6s a) (idAt a c):=by
 have hlen:=qb4 a;have hn:((idsZ a).length:Int)≠0:=by omega
 have h0:=yI c hn;have h1:=yN c (b:=((idsZ a).length:Int)) (by omega);have hlt:(c % (idsZ a).length).toNat<(idsZ a).length:=by omega
 refine idxI_mem _ _ ⟨⟨idAt a c,sName (idAt a c)⟩,?_,by simp⟩;unfold q6s;refine yz.2 ⟨idAt a c,?_,rfl⟩;unfold idAt;rw [y7 hlt];exact y8 hlt
theorem init_plain {l:List Nde} (hl:oks l) {T:List Typ} (h:rwS l.length (q0d l) T) {t c:Int} (ht:0<=t/\t<l.length) (hc:0<=c) (hi:(q7k l t c).2=true):q5T T t (q7k l t c).1=true:=by
 have hlen:=rwS_len h;have hjT:t.toNat<T.length:=by omega
 have hjl:t.toNat<l.length:=by omega
 have hrw:=qa2 h hjT;have htt:((t.toNat:Nat):Int)=t:=by omega
 have hkd:=q9t l hjl;rw [htt] at hrw hkd;have hx:=q3w hl hjl;rw [htt] at hx;have hkr:=kdAt_rng hl ht.1 ht.2;have hke:kdAt l t=(ndAt l t).kind:=by rw [<- htt]; exact kdAt_nd l hjl
 obtain ⟨xk,xa,xb,xc,_⟩:=hx0 _ hx;unfold q5T;unfold fitN;have ho:q0L T.length t=false:=by simp [q0L]; omega
 rw [ho,y7 hjT];generalize hf:fitN T _=f;clear hf;have hk:=rwT_kind hrw;rw [hkd] at hk;unfold q7k at hi ⊢;by_cases h56:kdAt l t=5\/kdAt l t=6
 ·rw [if_pos h56] at hi; cases hi
 rw [if_neg h56];have e6:¬ (kdAt l t=6/\(q3i l t false (ndAt l t).parts).isEmpty=true):=fun e=>h56 (.inr e.1)
 rw [if_neg e6] at hk;obtain ⟨bs,hbs,hb⟩:=hrw;rw [hb] at hk ⊢;simp only [Bool.not_false,Bool.true_and];have hin:inK l t=(typZ l t).kind:=by
  unfold inK;by_cases h8:kdAt l t=8
  ·by_cases hn:keyZ l 0<0
   ·have hn':=keyZ_some hl (by omega) xb.1 hn;rw [if_pos ⟨h8,hn⟩];rw [if_pos ⟨h8,hn'⟩] at hk;exact hk.symm
   ·have hn':¬ keyZ l (ndAt l t).b<0:=fun q=>hn (keyZ_some hl xb.1 (by omega) q)
    rw [if_neg (fun q=>hn q.2)];rw [if_neg (fun q=>hn' q.2),if_pos (by omega)] at hk;exact hk.symm
  ·rw [if_neg (fun q=>h8 q.1)];rw [if_neg (fun q=>h8 q.1)] at hk;by_cases h9:kdAt l t<=8
   ·rw [if_pos ⟨by omega,h9⟩] at hk; exact hk.symm
   ·rw [if_neg (fun q=>h9 q.2)] at hk;show kdAt l t=_;have:(typZ l t).kind=9:=hk;omega
 rw [hin];have hzV:∀ (k:Int) (b:Bool) (i:Int) (s:ByteArray) (d:Int),(k=1\/b=false)->(k=2\/i=0)->(k=3\/s=⟨#[]⟩)->(k=4\/k=6\/d=0)->q3t (Vl.of k b i s d)=true:=fun k b i s d h1 h2 h3 h4=>by
  simp only [q3t,Vl.of,Vl.kind,Vl.b,Vl.i,Vl.s,Vl.id,Vl.keys,Vl.items,Vl.rest,List.isEmpty_nil,Bool.or_true,Bool.and_true,yb,Bool.or_eq_true,decide_eq_true_eq,Bool.not_eq_true',or_assoc];exact ⟨h1.imp (fun h=>decide_eq_true h) id,h2.imp (fun h=>decide_eq_true h) (fun h=>decide_eq_true h),h3.imp (fun h=>decide_eq_true h) (fun h=>decide_eq_true h),h4.imp (fun h=>decide_eq_true h) (Or.imp (fun h=>decide_eq_true h) (fun h=>decide_eq_true h))⟩
 by_cases k1:kdAt l t=1
 ·have hz:(typZ l t).kind=1:=by simp [typZ,<- hke,k1,Typ.of]
  rw [hz];simp [Vl.of,Vl.kind,fitK,q3t,Vl.b,Vl.i,Vl.s,Vl.id,Vl.keys,Vl.items,Vl.rest,k1]
 by_cases k2:kdAt l t=2
 ·have hz:(typZ l t).kind=2:=by simp [typZ,<- hke,k2,Typ.of]
  have hlo:(typZ l t).low=(ndAt l t).low:=by simp [typZ,<- hke,k2,Typ.of]
  have hhi:(typZ l t).high=(ndAt l t).high:=by simp [typZ,<- hke,k2,Typ.of]
  rw [hz,hlo,hhi];have h1:=yI c (show (ndAt l t).b % 6 + 1≠0 by have:=xb.1; omega);have h2:=yN c (show 0<(ndAt l t).b % 6 + 1 by have:=xb.1; omega);have h3:(ndAt l t).low<=(ndAt l t).low + c % ((ndAt l t).b % 6 + 1):=by omega
  have h4:(ndAt l t).low + c % ((ndAt l t).b % 6 + 1)<=(ndAt l t).high:=by simp only [Nde.high]; omega
  simp [Vl.of,Vl.kind,fitK,q3t,Vl.b,Vl.i,Vl.s,Vl.id,Vl.keys,Vl.items,Vl.rest,k2,h3,h4,h1]
 by_cases k3:kdAt l t=3
 ·have hz:(typZ l t).kind=3:=by simp [typZ,<- hke,k3,Typ.of]
  have hmx:(typZ l t).max=(ndAt l t).a % 4:=by simp [typZ,<- hke,k3,Typ.of]
  have h0:0<=(ndAt l t).a % 4:=by omega
  have hs0:(⟨#[]⟩:ByteArray).size=0:=rfl;have hs1:(⟨#[97]⟩:ByteArray).size=1:=rfl;rw [hz,hmx];by_cases hq:0<(ndAt l t).a % 4/\c % 2=1
  ·have h1:1<=(ndAt l t).a % 4:=by omega
   simp [Vl.of,Vl.kind,fitK,q3t,Vl.b,Vl.i,Vl.s,Vl.id,Vl.keys,Vl.items,Vl.rest,k3,hq,hs1,h1]
  ·simp [Vl.of,Vl.kind,fitK,q3t,Vl.b,Vl.i,Vl.s,Vl.id,Vl.keys,Vl.items,Vl.rest,k3,hq,hs0,h0]
 by_cases k4:kdAt l t=4
 ·have hz:(typZ l t).kind=4:=by simp [typZ,<- hke,k4,Typ.of]
  have hsy:(typZ l t).syms=q6s (ndAt l t).a:=by simp [typZ,<- hke,k4,Typ.of]
  have hm:=idAt_mem (ndAt l t).a c hc;rw [hz,hsy];simp [Vl.of,Vl.kind,fitK,q3t,Vl.b,Vl.i,Vl.s,Vl.id,Vl.keys,Vl.items,Vl.rest,k4,hm]
 have hz:7<=(typZ l t).kind/\(typZ l t).kind<=9:=by
  rw [hkd,if_neg e6];split
  ·omega
  ·split <;> omega
 have hmx:(typZ l t).kind<=8->0<=(typZ l t).max:=fun h8=>by
  by_cases k7:kdAt l t=7
  ·have:(typZ l t).max=(ndAt l t).a % 4:=by simp [typZ,<- hke,k7,Typ.of]
   omega
  by_cases k8:kdAt l t=8
  ·by_cases hc:keyZ l (ndAt l t).b<0
   ·have:(typZ l t).max=(ndAt l t).a % 4:=by simp [typZ,<- hke,k8,hc,Typ.of]
    omega
   ·have:(typZ l t).max=(ndAt l t).a % 4:=by simp [typZ,<- hke,k8,hc,Typ.of]
    omega
  have k9:kdAt l t=9:=by omega
  have:(typZ l t).kind=9:=by simp [typZ,<- hke,k9,Typ.of]
  omega
 generalize (typZ l t).kind=kk at *
 have q1:¬ kk=1:=by omega
 have q2:¬ kk=2:=by omega
 have q3:¬ kk=3:=by omega
 have q4:¬ kk=4:=by omega
 have q5:¬ kk=5:=by omega
 have q6:¬ kk=6:=by omega
 have hfit:fitK f { kind:=kk,name:=(typZ l t).name,low:=(typZ l t).low,high:=(typZ l t).high,max:=(typZ l t).max,sn:=(typZ l t).sn,syms:=(typZ l t).syms,mn:=bs.isEmpty,mems:=bs,key:=(typZ l t).key,elem:=(typZ l t).elem,opn:=(typZ l t).opn } (Vl.of kk false 0 ⟨#[]⟩ 0)=true:=by
  simp only [fitK,q1,q2,q3,q4,q5,q6,if_false,Vl.of,Vl.items,Vl.keys];by_cases k7:kk=7
  ·simp [k7,hmx (by omega)]
  by_cases k8:kk=8
  ·simp [k8,hmx (by omega),ascV]
  simp [k7,k8]
 simp only [k1,k2,k3,k4,false_and,if_false,decide_false];rw [hzV kk false 0 ⟨#[]⟩ 0 (.inr rfl) (.inr rfl) (.inr rfl) (.inr (.inr rfl)),hfit];simp [Vl.of,Vl.kind]
theorem dflts_none {S:List Typ} (h:∀ t∈S,q6l S t=none):∀ n i,q2b S n i=none
 | 0,i=>rfl
 | n + 1,i=>by
  rw [q2b];cases hi:S[i]? with
  | none=>rfl
  | some t =>
   simp only [h t (yo hi)];exact dflts_none h n (i + 1)
theorem rwS_err {l:List Nde} (hl:oks l) {T:List Typ} (h:rwS l.length (q0d l) T):q2W T=0:=by
 unfold q2W;rw [if_pos (rwS_valid hl h),dflts_none fun t ht=>?_];obtain ⟨i,hi,rfl⟩:=yC ht;have hil:i<l.length:=by rw [<- rwS_len h]; exact hi
 unfold q6l;rw [Option.map_eq_none_iff,List.find?_eq_none];intro m hm;obtain ⟨bs,hbs,hb⟩:=qa2 h hi;have hm':m∈bs:=by rw [hb] at hm; exact hm
 obtain ⟨j,hj,rfl⟩:=yC hm';have hja:j<(typZ l (i:Int)).mems.length:=by rw [hbs.1]; exact hj
 have hr:=hbs.2 j _ _ (y7 hja) (y7 hj);unfold badM;rcases hr.2.2.2 with h4 | ⟨_,_,h5,_⟩
 ·rw [h4];have hmz:∃ rc id p,p.ok/\q74 l (i:Int) id p=true/\(typZ l (i:Int)).mems[j]=memZ l (i:Int) rc id p:=by
   have hmem:=y8 hja;generalize (typZ l (i:Int)).mems[j]=m at *
   have hx:=q3w hl hil;unfold typZ at hmem;generalize ndAt l (i:Int)=x at *
   have hp:∀ rc,m∈q3i l (i:Int) rc x.parts->∃ rc id p,p.ok/\q74 l (i:Int) id p=true/\m=memZ l (i:Int) rc id p:=fun rc hmem=>by
    obtain ⟨id,p,_,_,h1,h2,h3⟩:=q6I 12 m hmem;exact ⟨rc,id,p,hx.2.2.2.2.2 p h1,h2,h3⟩
   simp only at hmem;split at hmem <;> first | (simp [Typ.of] at hmem; done) | exact hp _ hmem | skip
   all_goals split at hmem <;> first | (simp [Typ.of] at hmem; done) | exact hp _ hmem
  obtain ⟨rc,id,p,hpo,hp,he⟩:=hmz;rw [he];simp only [q74,decide_eq_true_eq] at hp;have hrg:=q9r hl (i:Int) p.ty (by omega);cases hh:(memZ l (i:Int) rc id p).has with
  | false=>simp
  | true =>
   simp only [memZ,yb,decide_eq_true_eq] at hh;have:=init_plain hl h ⟨hp.2,hrg.2⟩ (c:=p.flag / 4) (by have:=hpo.2.2.1; omega) hh.2;simp [memZ,hh.1,this]
 ·simp [h5]
structure SucI (x y:Typ) (out:List Pr) (s:MSt):Prop where
 e9:(s.env 9).v=.ptr 9 2 0
 e10:(s.env 10).v=.ptr 10 2 0
 e11:(s.env 11).v=.ptr 11 3 0
 e12:(s.env 12).v=.fn 135 [.ptr 11 3 0]
 m9:s.mem 9 2=some (q0a x)
 m10:s.mem 10 2=some (q0a y)
 m11:∃ an,s.mem 11 3=some (q6i out an)/\outAn out an
theorem SucI.of {x y:Typ} {out:List Pr} {s s':MSt} (h:SucI x y out s) (he:∀ t,9<=t->t<=12->(s'.env t).v=(s.env t).v) (hm:∀ t n,9<=t->t<=11->s'.mem t n=s.mem t n):SucI x y out s':=by
 obtain ⟨h1,h2,h3,h4,h5,h6,h7⟩:=h;exact ⟨by rw [he 9 (by omega) (by omega),h1],by rw [he 10 (by omega) (by omega),h2],by rw [he 11 (by omega) (by omega),h3],by rw [he 12 (by omega) (by omega),h4],by rw [hm 9 _ (by omega) (by omega),h5],by rw [hm 10 _ (by omega) (by omega),h6],by rw [hm 11 _ (by omega) (by omega)]; exact h7⟩
theorem typRow_no (x:Typ):∀ s∈q0a x,s.a=.no:=by simp [q0a]
theorem suc_add {r:RV} {x y:Typ} {out:List Pr} {E:Nat->Slot} {M:Nat->Nat->Option (List Slot)} {n:Nat} {ob:Nat->Nat->Option AV} {g:Nat->Slot} (h:SucI x y out ⟨E,M,n,ob,g⟩) (hlen:out.length<=1000000) (a b:Int) {a1 a2 a3:An} (k:Slot->MSt->Option RV)
  (hk:∀ yv s',SucI x y (addP out (a,b)) ⟨backE 99 s'.gh,s'.mem,s'.next,s'.obj,restE 99 s'.gh⟩->(∀ j,j<99->(s'.gh j).v=(E j).v)->k yv s'=some r) :
  evH allT q01 135 [⟨.int .i64 a,a1⟩,⟨.int .i64 b,a2⟩,⟨.ptr 11 3 0,a3⟩] ⟨E,M,n,ob,waitE 99 E g⟩ k=some r:=by
 obtain ⟨h1,h2,h3,h4,h5,h6,an,h7,h8⟩:=h;refine add_ev (s:=⟨E,M,n,ob,waitE 99 E g⟩) out hlen a b (by decide) h7 h8 k (fun yv s' an' hn hm han hgh hmem=>?_);have hj:∀ j,j<99->(s'.gh j).v=(E j).v:=fun j hj=>by rw [hgh j]; simp [hj]
 refine hk yv s' ⟨?_,?_,?_,?_,?_,?_,an',hm,han⟩ hj
 ·simpa [hj 9] using h1
 ·simpa [hj 10] using h2
 ·simpa [hj 11] using h3
 ·simpa [hj 12] using h4
 ·exact hmem 9 2 _ (by decide) (by decide) h5 (typRow_no x)
 ·exact hmem 10 2 _ (by decide) (by decide) h6 (typRow_no y)
theorem successors_ev (w r:Sch) {x y:Typ} {i k:Int} (hi:0<=i) (gx:w.types[i.toNat]?=some x) (hk:0<=k) (gy:r.types[k.toNat]?=some y) (hxm:x.mems.length<=1000) (hym:y.mems.length<=1000):evA 79 [.agg (schC w),.int .i64 i,.agg (schC r),.int .i64 k] (.sl (q9H x y).isEmpty ((q9H x y).map prC)):=by
 have g1:(w.types.map typC)[i.toNat]?=some (typC x):=by rw [yf,gx]; rfl
 have g2:(r.types.map typC)[k.toNat]?=some (typC y):=by rw [yf,gy]; rfl
 simp only [typC] at g1 g2;refine q00 (c:=q1K) rfl rfl ?_;by_cases e:x.kind=y.kind
 case neg=>simp [q1K,-y0,-y5,-y4,y3,schC,g1,g2,hi,hk,e,q9H]
 simp [q1K,-y0,-y5,-y4,y3,schC,g1,g2,hi,hk,e];refine q0f x.mems.length (fun i s=>SucI x y (qax x.mems y.mems i) s/\(s.env 35).v=.sl x.mn (x.mems.map memC)/\(s.env 36).v=.int .i64 x.mems.length/\(s.env 37).v=.int .i64 i)
  (fun e s=>e=.exit 0/\SucI x y (qax x.mems y.mems x.mems.length) s) (fun i hi s k h ih hk=>?_) _ _ ?_ (fun e1 s h=>?_)
 ·obtain ⟨hS,e35,e36,e37⟩:=h;have hS':=hS;obtain ⟨e9,e10,e11,e12,m9,m10,an,m11,ha⟩:=hS;refine q04 ?_;by_cases hlt:i<x.mems.length
  ·have hlt':(i:Int)<x.mems.length:=by omega
   have gm:(x.mems.map memC)[i]?=some (memC x.mems[i]):=by simp [hlt]
   have hw':=q11 (i:=i) (by omega);have hst:=comTo_step (ys:=y.mems) hlt;have hcl:=comTo_len x.mems y.mems i;have hsy:=mem_ev y x.mems[i].id (by omega);generalize x.mems[i]=f at *
   simp only [memC] at gm;simp only [evA,typC,memA] at hsy;simp only [q0a] at m9 m10;by_cases c:0<=q1l y.mems f.id
   ·obtain ⟨g,hg,hgm⟩:=q86 c;have gg:(y.mems.map memC)[(q1l y.mems f.id).toNat]?=some (memC g):=by rw [yf,hg]; rfl
    rw [comM_some c hg] at hst;have hmax:max (q1l y.mems f.id) 0=q1l y.mems f.id:=by omega
    simp only [c,decide_true,hmax] at hsy;generalize q1l y.mems f.id=ix at *
    simp only [memC] at gg;simp [q1O,-y0,-y5,-y4,y3,e9,e10,e11,e12,m9,m10,e35,e36,e37,hlt',gm,hsy,gg,c,hw'];refine suc_add (x:=x) (y:=y) (out:=qax x.mems y.mems i) (hS'.of ?_ ?_) (by omega) _ _ _ (fun yv s' hA hj=>?_)
    ·intro t h9 h12;simp
     repeat (rw [if_neg (by omega)])
    ·intro t n h9 h11;simp
     repeat (rw [if_neg (by omega)])
    ·have j35:=hj 35 (by omega);have j36:=hj 36 (by omega);have j37:=hj 37 (by omega);simp [e35,e36,e37] at j35 j36 j37;simp [-y0,-y5,-y4,y3,j37,hw'];refine ih hlt _ ⟨?_,?_,?_,?_⟩
     ·rw [hst];refine hA.of (fun t h9 h12=>?_) (fun t n _ _=>rfl);simp
      repeat (rw [if_neg (by omega)])
     ·simp [j35]
     ·simp [j36]
     ·simp
   ·rw [comM_none c] at hst;simp only [c,decide_false] at hsy;simp [q1O,-y0,-y5,-y4,y3,e9,e10,e11,e12,m9,m10,e35,e36,e37,hlt',gm,hsy,c,hw'];refine ih hlt _ ⟨?_,?_,?_,?_⟩
    ·rw [hst];refine hS'.of (fun t h9 h12=>?_) (fun t n h9 h11=>?_)
     ·simp
      repeat (rw [if_neg (by omega)])
     ·simp
      repeat (rw [if_neg (by omega)])
    ·simp [e35]
    ·simp [e36]
    ·simp
  ·have hlt':¬ (i:Int)<x.mems.length:=by omega
   have hil:i=x.mems.length:=by omega
   simp [q1O,-y0,-y5,-y4,y3,e36,e37,hlt'];refine hk _ _ ⟨rfl,?_⟩;rw [<- hil];refine hS'.of (fun t h9 h12=>?_) (fun t n _ _=>rfl);simp
   repeat (rw [if_neg (by omega)])
 ·refine ⟨⟨?_,?_,?_,?_,?_,?_,.ex,?_,.inl ⟨rfl,rfl⟩⟩,?_,?_,?_⟩ <;> simp [q0a,e,q6i,qax,comL]
 obtain ⟨rfl,hS⟩:=h;have hcl:=comTo_len x.mems y.mems x.mems.length;have hnx:q9H x y=(keyL x y++elemL x y).foldl addP (qax x.mems y.mems x.mems.length):=by
  unfold q9H qax;rw [if_pos e,List.take_length,List.foldl_append,List.foldl_append,List.foldl_append]
 generalize qax x.mems y.mems x.mems.length=out at *
 unfold keyL elemL at hnx;have hS':=hS;obtain ⟨e9,e10,e11,e12,m9,m10,an,m11,ha⟩:=hS;simp only [q0a] at m9 m10;rw [e] at hnx;by_cases k8:y.kind=8
 ·by_cases c:0<x.max
  ·rw [if_pos ⟨k8,c⟩,if_pos (.inr ⟨.inr k8,c⟩)] at hnx;simp only [List.cons_append,List.nil_append,List.foldl_cons,List.foldl_nil] at hnx;simp [-y0,-y5,-y4,y3,e9,e10,e11,e12,m9,m10,e,k8,c];refine suc_add (x:=x) (y:=y) (out:=out) (hS'.of ?_ ?_) (by omega) _ _ _ (fun yv s' hA hj=>?_)
   ·intro t h9 h12;simp
    repeat (rw [if_neg (by omega)])
   ·intro t n h9 h11;rfl
   ·have hA':=hA;obtain ⟨f9,f10,f11,f12,n9,n10,an1,n11,hb⟩:=hA;simp at f9 f10 f11 f12;simp only [q0a] at n9 n10;simp [-y0,-y5,-y4,y3,f9,f10,f11,f12,n9,n10,e,k8,c];have hl2:=addP_len out (x.key,y.key);refine suc_add (x:=x) (y:=y) (out:=addP out (x.key,y.key)) (hA'.of ?_ ?_) (by omega) _ _ _ (fun yv2 s2 hB hj2=>?_)
    ·intro t h9 h12;simp
     repeat (rw [if_neg (by omega)])
    ·intro t n h9 h11;rfl
    ·obtain ⟨b9,b10,b11,b12,p9,p10,an2,p11,hc⟩:=hB;simp at b11;simp only [q6i] at p11;simp [-y0,-y5,-y4,y3,b11,p11,hnx]
  ·rw [if_neg (fun h=>c h.2),if_neg (by omega)] at hnx;simp only [List.append_nil,List.foldl_nil] at hnx;simp only [q6i] at m11;simp [-y0,-y5,-y4,y3,e9,e10,e11,e12,m9,m10,m11,e,k8,c,hnx]
 rw [if_neg (fun h=>k8 h.1),List.nil_append] at hnx;by_cases k9:y.kind=9
 ·rw [if_pos (.inl k9)] at hnx;simp only [List.foldl_cons,List.foldl_nil] at hnx;simp [-y0,-y5,-y4,y3,e9,e10,e11,e12,m9,m10,e,k9];refine suc_add (x:=x) (y:=y) (out:=out) (hS'.of ?_ ?_) (by omega) _ _ _ (fun yv s' hA hj=>?_)
  ·intro t h9 h12;simp
   repeat (rw [if_neg (by omega)])
  ·intro t n h9 h11;rfl
  ·obtain ⟨b9,b10,b11,b12,p9,p10,an2,p11,hc⟩:=hA;simp at b11;simp only [q6i] at p11;simp [-y0,-y5,-y4,y3,b11,p11,hnx]
 by_cases k7:y.kind=7
 ·by_cases c:0<x.max
  ·rw [if_pos (.inr ⟨.inl k7,c⟩)] at hnx;simp only [List.foldl_cons,List.foldl_nil] at hnx;simp [-y0,-y5,-y4,y3,e9,e10,e11,e12,m9,m10,e,k7,c];refine suc_add (x:=x) (y:=y) (out:=out) (hS'.of ?_ ?_) (by omega) _ _ _ (fun yv s' hA hj=>?_)
   ·intro t h9 h12;simp
    repeat (rw [if_neg (by omega)])
   ·intro t n h9 h11;rfl
   ·obtain ⟨b9,b10,b11,b12,p9,p10,an2,p11,hc⟩:=hA;simp at b11;simp only [q6i] at p11;simp [-y0,-y5,-y4,y3,b11,p11,hnx]
  ·rw [if_neg (by omega)] at hnx;simp only [List.foldl_nil] at hnx;simp only [q6i] at m11;simp [-y0,-y5,-y4,y3,e9,e10,e11,e12,m9,m10,m11,e,k7,c,hnx]
 rw [if_neg (by omega)] at hnx;simp only [List.foldl_nil] at hnx;simp only [q6i] at m11;simp [-y0,-y5,-y4,y3,e9,e10,e11,e12,m9,m10,m11,e,k7,k8,k9,hnx]
theorem comL_step {xs ys:List Mem} {i:Nat} (h:i<xs.length):comL (xs.take (i + 1)) ys=comL (xs.take i) ys++comM ys xs[i]:=by
 unfold comL;rw [<- yR h,List.flatMap_append];simp
theorem comLT_len (ys xs:List Mem) (i:Nat):(comL (xs.take i) ys).length<=i:=by
 have h2:=q93 ys (xs.take i);simp only [yD] at h2;omega
def apA (l:List Pr) (a:An) (k:Nat):Prop:=l=[]/\a=.ex\/l≠[]/\a=.own k 63
theorem q5z {r:RV} (l:List Pr) (hl:l.length<=1000000) (s:MSt) (h11:(s.env 11).v=.sl l.isEmpty (l.map prC)) (h15:(s.env 15).v=.sl true []) (h16:(s.env 16).v=.int .i64 0) (k:Ex->MSt->Option RV)
  (hk:∀ s',(s'.env 15).v=.sl (l.foldl addP []).isEmpty ((l.foldl addP []).map prC)->k (.exit 2) s'=some r):evL allT q01 q2A s k=some r:=by
 refine q0f l.length (fun i s=>(s.env 11).v=.sl l.isEmpty (l.map prC)/\(s.env 16).v=.int .i64 i/\(s.env 15).v=.sl ((l.take i).foldl addP []).isEmpty (((l.take i).foldl addP []).map prC)/\(((l.take i).foldl addP []=[])\/((l.take i).foldl addP []≠[])/\(s.env 15).a=.own 128 63))
  (fun e s=>e=.exit 2/\(s.env 15).v=.sl (l.foldl addP []).isEmpty ((l.foldl addP []).map prC)) (fun i hi s k h ih hk=>?_) _ _ ⟨h11,h16,by simpa using h15,.inl rfl⟩ (fun e s h=>by obtain ⟨rfl,h⟩:=h; exact hk _ h)
 obtain ⟨e11,e16,e15,a15⟩:=h;refine q04 ?_;by_cases hlt:i<l.length
 ·have hlt':(i:Int)<l.length:=by omega
  have g1:(l.map prC)[i]?=some (prC l[i]):=by simp [hlt]
  have hw:=q11 (i:=i) (by omega);have hst:(l.take (i + 1)).foldl addP []=addP ((l.take i).foldl addP []) l[i]:=by rw [<- yR hlt,List.foldl_append]; rfl
  have hlen:((l.take i).foldl addP []).length<=i:=by
   have:=qaZ (l.take i) [];simp only [yD,List.length_nil] at this;omega
  rw [hst] at ih;generalize (l.take i).foldl addP []=out at *
  generalize l[i]=p at *
  have hin:=rin_ev out (by omega) out.isEmpty p;have q:=els_pr out;have hroom:q10 16 (out.length + 1)=true:=by rw [q0l]; omega
  simp only [evA,prC] at hin g1;by_cases c:p∈out
  ·rw [decide_eq_true c] at hin;rw [show addP out p=out from if_pos c] at ih;simp [q2A,-y0,-y5,-y4,y3,e11,e15,e16,hlt',g1,hin,hw];refine ih hlt _ ⟨?_,?_,?_,?_⟩
   ·simp [e11]
   ·simp
   ·simp [e15]
   ·simpa using a15
  ·rw [decide_eq_false c] at hin;rw [show addP out p=out++[p] from if_neg c] at ih;rcases a15 with rfl | ⟨hne,a15⟩
   ·simp at e15 hin;simp [q2A,-y0,-y5,-y4,y3,e11,e15,e16,hlt',g1,hin,hw,room1,room2];refine ih hlt _ ⟨?_,?_,?_,.inr ⟨by simp,?_⟩⟩
    ·simp [e11]
    ·simp
    ·simp [prC]
    ·simp
   ·have hie:out.isEmpty=false:=by simpa using hne
    rw [hie] at e15 hin;simp [q2A,-y0,-y5,-y4,y3,e11,e15,a15,e16,hlt',g1,hin,hw,hroom,q];refine ih hlt _ ⟨?_,?_,?_,.inr ⟨by simp,?_⟩⟩
    ·simp [e11]
    ·simp
    ·simp [prC]
    ·simp
 ·have hlt':¬ (i:Int)<l.length:=by omega
  simp [q2A,-y0,-y5,-y4,y3,e11,e16,hlt'];refine hk _ _ ⟨rfl,?_⟩;rw [yO (by omega)] at e15;simp [e15]
structure RnI (x y:Typ) (l:List Pr) (s:MSt):Prop where
 e9:(s.env 9).v=.ptr 9 2 0
 e10:(s.env 10).v=.ptr 10 2 0
 m9:s.mem 9 2=some (q0a x)
 m10:s.mem 10 2=some (q0a y)
 e11:(s.env 11).v=.sl l.isEmpty (l.map prC)
 a11:apA l (s.env 11).a 66
theorem next_ev (w r:Sch) {x y:Typ} {i k:Int} (hi:0<=i) (gx:w.types[i.toNat]?=some x) (hk:0<=k) (gy:r.types[k.toNat]?=some y) (hxm:x.mems.length<=1000) (hym:y.mems.length<=1000):evA 41 [.agg (schC w),.int .i64 i,.agg (schC r),.int .i64 k] (.sl (q9H x y).isEmpty ((q9H x y).map prC)):=by
 have g1:(w.types.map typC)[i.toNat]?=some (typC x):=by rw [yf,gx]; rfl
 have g2:(r.types.map typC)[k.toNat]?=some (typC y):=by rw [yf,gy]; rfl
 simp only [typC] at g1 g2;refine q00 (c:=q4S) rfl rfl ?_;by_cases e:x.kind=y.kind
 case neg=>simp [q4S,-y0,-y5,-y4,y3,schC,g1,g2,hi,hk,e,q9H]
 simp [q4S,-y0,-y5,-y4,y3,schC,g1,g2,hi,hk,e];refine q0f x.mems.length (fun i s=>RnI x y (comL (x.mems.take i) y.mems) s/\(s.env 12).v=.int .i64 i)
  (fun e s=>e=.exit 0/\RnI x y (comL x.mems y.mems) s) (fun i hi s k h ih hk=>?_) _ _ ?_ (fun e1 s h=>?_)
 ·obtain ⟨⟨e9,e10,m9,m10,e11,a11⟩,e12⟩:=h;refine q04 ?_;simp only [q0a] at m9 m10;by_cases hlt:i<x.mems.length
  ·have hlt':(i:Int)<x.mems.length:=by omega
   have gm:(x.mems.map memC)[i]?=some (memC x.mems[i]):=by simp [hlt]
   have hw':=q11 (i:=i) (by omega);have hst:=comL_step (ys:=y.mems) hlt;have hcl:=comLT_len y.mems x.mems i;have hsy:=rmem_ev y x.mems[i].id (by omega);rw [hst] at ih;generalize x.mems[i]=f at *
   generalize comL (x.mems.take i) y.mems=out at *
   have q:=els_pr out;have hroom:q10 16 (out.length + 1)=true:=by rw [q0l]; omega
   simp only [memC] at gm;simp only [evA,typC,memA] at hsy;by_cases c:0<=q1l y.mems f.id
   ·obtain ⟨g,hg,hgm⟩:=q86 c;have gg:(y.mems.map memC)[(q1l y.mems f.id).toNat]?=some (memC g):=by rw [yf,hg]; rfl
    rw [comM_some c hg] at ih;have hmax:max (q1l y.mems f.id) 0=q1l y.mems f.id:=by omega
    simp only [c,decide_true,hmax] at hsy;generalize q1l y.mems f.id=ix at *
    simp only [memC] at gg;rcases a11 with ⟨rfl,a11⟩ | ⟨hne,a11⟩
    ·simp at e11;simp [q3e,-y0,-y5,-y4,y3,e9,e10,e11,a11,e12,m9,m10,hlt',gm,hsy,gg,c,hw',room1,room2];refine ih hlt _ ⟨⟨?_,?_,?_,?_,?_,.inr ⟨by simp,?_⟩⟩,?_⟩ <;> simp [e9,e10,m9,m10,q0a,prC]
    ·have hie:out.isEmpty=false:=by simpa using hne
     rw [hie] at e11;simp [q3e,-y0,-y5,-y4,y3,e9,e10,e11,a11,e12,m9,m10,hlt',gm,hsy,gg,c,hw',hroom,q];refine ih hlt _ ⟨⟨?_,?_,?_,?_,?_,.inr ⟨by simp,?_⟩⟩,?_⟩ <;> simp [e9,e10,m9,m10,q0a,prC]
   ·rw [comM_none c,List.append_nil] at ih;simp only [c,decide_false] at hsy;simp [q3e,-y0,-y5,-y4,y3,e9,e10,e11,e12,m9,m10,hlt',gm,hsy,c,hw'];refine ih hlt _ ⟨⟨?_,?_,?_,?_,?_,?_⟩,?_⟩
    ·simp [e9]
    ·simp [e10]
    ·simp [m9,q0a]
    ·simp [m10,q0a]
    ·simp [e11]
    ·simpa using a11
    ·simp
  ·have hlt':¬ (i:Int)<x.mems.length:=by omega
   simp [q3e,-y0,-y5,-y4,y3,e9,m9,e12,hlt'];rw [yO (by omega)] at e11 a11;refine hk _ _ ⟨rfl,⟨?_,?_,?_,?_,?_,?_⟩⟩
   ·simp [e9]
   ·simp [e10]
   ·simp [m9,q0a]
   ·simp [m10,q0a]
   ·simp [e11]
   ·simpa using a11
 ·refine ⟨⟨?_,?_,?_,?_,?_,.inl ⟨rfl,?_⟩⟩,?_⟩ <;> simp [q0a,e,comL]
 obtain ⟨rfl,e9,e10,m9,m10,e11,a11⟩:=h;have hcl:=q93 y.mems x.mems;have hnx:q9H x y=(comL x.mems y.mems++keyL x y++elemL x y).foldl addP []:=by
  unfold q9H;rw [if_pos e]
 generalize comL x.mems y.mems=out at *
 unfold keyL elemL at hnx;simp only [q0a] at m9 m10;rw [e] at hnx;have q:=els_pr out;have hroom:q10 16 (out.length + 1)=true:=by rw [q0l]; omega
 by_cases k8:y.kind=8
 ·by_cases c:0<x.max
  ·rw [if_pos ⟨k8,c⟩,if_pos (.inr ⟨.inr k8,c⟩)] at hnx;have hroom2:q10 16 (out.length + 1 + 1)=true:=by rw [q0l]; omega
   have q2:=els_pr (out++[(x.key,y.key)]);simp only [List.map_append,yk,yn,prC] at q2;rcases a11 with ⟨rfl,a11⟩ | ⟨hne,a11⟩
   ·simp at e11;simp [-y0,-y5,-y4,y3,e9,e10,e11,a11,m9,m10,e,k8,c,room1,room2];refine q5z [(x.key,y.key),(x.elem,y.elem)] (by simp) _ ?_ ?_ ?_ _ (fun s' h15=>?_)
    ·simp [prC]
    ·simp
    ·simp
    ·simp [-y0,-y5,-y4,y3,h15,hnx]
   ·have hie:out.isEmpty=false:=by simpa using hne
    rw [hie] at e11;simp [-y0,-y5,-y4,y3,e9,e10,e11,a11,m9,m10,e,k8,c,hroom,hroom2,q,q2];refine q5z (out++[(x.key,y.key)]++[(x.elem,y.elem)]) (by simp; omega) _ ?_ ?_ ?_ _ (fun s' h15=>?_)
    ·simp [prC]
    ·simp
    ·simp
    ·simp only [List.append_assoc] at h15 hnx;simp [-y0,-y5,-y4,y3,h15,hnx]
  ·rw [if_neg (fun h=>c h.2),if_neg (by omega),List.append_nil,List.append_nil] at hnx;simp [-y0,-y5,-y4,y3,e9,e10,e11,m9,m10,e,k8,c];refine q5z out (by omega) _ ?_ ?_ ?_ _ (fun s' h15=>?_)
   ·simp [e11]
   ·simp
   ·simp
   ·simp [-y0,-y5,-y4,y3,h15,hnx]
 rw [if_neg (fun h=>k8 h.1),List.append_nil] at hnx;by_cases k9:y.kind=9
 ·rw [if_pos (.inl k9)] at hnx;rcases a11 with ⟨rfl,a11⟩ | ⟨hne,a11⟩
  ·simp at e11;simp [-y0,-y5,-y4,y3,e9,e10,e11,a11,m9,m10,e,k9,room1,room2];refine q5z [(x.elem,y.elem)] (by simp) _ ?_ ?_ ?_ _ (fun s' h15=>?_)
   ·simp [prC]
   ·simp
   ·simp
   ·simp [-y0,-y5,-y4,y3,h15,hnx]
  ·have hie:out.isEmpty=false:=by simpa using hne
   rw [hie] at e11;simp [-y0,-y5,-y4,y3,e9,e10,e11,a11,m9,m10,e,k9,hroom,q];refine q5z (out++[(x.elem,y.elem)]) (by simp; omega) _ ?_ ?_ ?_ _ (fun s' h15=>?_)
   ·simp [prC]
   ·simp
   ·simp
   ·simp [-y0,-y5,-y4,y3,h15,hnx]
 by_cases k7:y.kind=7
 ·by_cases c:0<x.max
  ·rw [if_pos (.inr ⟨.inl k7,c⟩)] at hnx;rcases a11 with ⟨rfl,a11⟩ | ⟨hne,a11⟩
   ·simp at e11;simp [-y0,-y5,-y4,y3,e9,e10,e11,a11,m9,m10,e,k7,c,room1,room2];refine q5z [(x.elem,y.elem)] (by simp) _ ?_ ?_ ?_ _ (fun s' h15=>?_)
    ·simp [prC]
    ·simp
    ·simp
    ·simp [-y0,-y5,-y4,y3,h15,hnx]
   ·have hie:out.isEmpty=false:=by simpa using hne
    rw [hie] at e11;simp [-y0,-y5,-y4,y3,e9,e10,e11,a11,m9,m10,e,k7,c,hroom,q];refine q5z (out++[(x.elem,y.elem)]) (by simp; omega) _ ?_ ?_ ?_ _ (fun s' h15=>?_)
    ·simp [prC]
    ·simp
    ·simp
    ·simp [-y0,-y5,-y4,y3,h15,hnx]
  ·rw [if_neg (by omega),List.append_nil] at hnx;simp [-y0,-y5,-y4,y3,e9,e10,e11,m9,m10,e,k7,c];refine q5z out (by omega) _ ?_ ?_ ?_ _ (fun s' h15=>?_)
   ·simp [e11]
   ·simp
   ·simp
   ·simp [-y0,-y5,-y4,y3,h15,hnx]
 rw [if_neg (by omega),List.append_nil] at hnx;simp [-y0,-y5,-y4,y3,e9,e10,e11,m9,m10,e,k7,k8,k9];refine q5z out (by omega) _ ?_ ?_ ?_ _ (fun s' h15=>?_)
 ·simp [e11]
 ·simp
 ·simp
 ·simp [-y0,-y5,-y4,y3,h15,hnx]
def inP (n m:Nat) (p:Pr):Prop:=0<=p.1/\p.1<n/\0<=p.2/\p.2<m
structure SimF (w r:Sch) (nx:Pr->List Pr) (rs:Pr->Int):Prop where
 suc:∀ p,inP w.types.length r.types.length p->evA 79 [.agg (schC w),.int .i64 p.1,.agg (schC r),.int .i64 p.2] (.sl (nx p).isEmpty ((nx p).map prC))
 rsuc:∀ p,inP w.types.length r.types.length p->evA 41 [.agg (schC w),.int .i64 p.1,.agg (schC r),.int .i64 p.2] (.sl (nx p).isEmpty ((nx p).map prC))
 rsn:∀ p,inP w.types.length r.types.length p->evA 77 [.agg (schC w),.int .i64 p.1,.agg (schC r),.int .i64 p.2] (.int .i64 (rs p))
 rrsn:∀ p,inP w.types.length r.types.length p->evA 78 [.agg (schC w),.int .i64 p.1,.agg (schC r),.int .i64 p.2] (.int .i64 (rs p))
 rng:∀ p,inP w.types.length r.types.length p->∀ q∈nx p,inP w.types.length r.types.length q
 len:∀ p,inP w.types.length r.types.length p->(nx p).length<=2000
 wl:w.types.length<=32
 rl:r.types.length<=32
abbrev Ent:=Pr × List Pr × Int
theorem addP_mem {out:List Pr} {q x:Pr}:x∈addP out q ↔ x∈out\/x=q:=by
 unfold addP;split
 ·rename_i h;constructor
  ·exact .inl
  ·rintro (h' | rfl)
   ·exact h'
   ·exact h
 ·simp
theorem addsP_mem:∀ (l out:List Pr) {x:Pr},x∈l.foldl addP out ↔ x∈out\/x∈l
 | [],out,x=>by simp
 | q :: r,out,x=>by
  rw [List.foldl_cons,addsP_mem r,addP_mem];simp [or_assoc]
structure EntOk (nx:Pr->List Pr) (p:Pr) (l:List Ent) (k:Nat) (e:Ent):Prop where
 bef:(k=0/\e=(p,[p],-1))\/(∃ j:Nat,j<k/\e.2.2=j/\∃ e',l[j]?=some e'/\e.2.1=e'.2.1++[e.1]/\e.1∈nx e'.1)
theorem EntOk.more {nx:Pr->List Pr} {p:Pr} {l:List Ent} {k:Nat} {e:Ent} (h:EntOk nx p l k e) (t:List Ent):EntOk nx p (l++t) k e:=by
 rcases h with ⟨h | ⟨j,h1,h2,e',h3,h4⟩⟩
 ·exact ⟨.inl h⟩
 ·exact ⟨.inr ⟨j,h1,h2,e',by rw [yM (ye.1 h3).1]; exact h3,h4⟩⟩
def q8g (s:Sch) (t:Int):List AV:=[.sl s.nl (s.types.map typC),.int .i64 t]
def oneE (e:Int) (n:Nat) (i:Int):Int:=if e=0 then (if i<0\/(n:Int)<=i then 4 else 0) else e
def botE (e f:Int) (n m:Nat) (i k:Int):Int:=if oneE e n i=0 then oneE f m k else oneE e n i
def SndE (s:Sch) (e:Int):Prop:=evA 95 [.agg (schC s)] (.int .i64 e)/\evA 97 [.agg (schC s)] (.int .i64 e)
theorem sone_ev {s:Sch} {e:Int} (h:SndE s e) (i:Int):evA 128 [.agg (schC s),.int .i64 i] (.int .i64 (oneE e s.types.length i)):=by
 have h1:=h.1;refine q00 (c:=q1S) rfl rfl ?_;simp only [evA,schC] at h1 ⊢;unfold oneE;by_cases h0:e=0
 case neg=>simp [q1S,-y0,-y5,-y4,y3,h1,h0]
 subst h0;by_cases c1:i<0
 ·simp [q1S,-y0,-y5,-y4,y3,h1,c1]
 ·by_cases c2:(s.types.length:Int)<=i
  ·simp [q1S,-y0,-y5,-y4,y3,h1,c1,c2]
  ·simp [q1S,-y0,-y5,-y4,y3,h1,c1,c2]
theorem rone_ev {s:Sch} {e:Int} (h:SndE s e) (i:Int):evA 101 [.agg (schC s),.int .i64 i] (.int .i64 (oneE e s.types.length i)):=by
 have h1:=h.2;refine q00 (c:=q3U) rfl rfl ?_;simp only [evA,schC] at h1 ⊢;unfold oneE;by_cases h0:e=0
 case neg=>simp [q3U,-y0,-y5,-y4,y3,h1,h0]
 subst h0;by_cases c1:i<0
 ·simp [q3U,-y0,-y5,-y4,y3,h1,c1]
 ·by_cases c2:(s.types.length:Int)<=i
  ·simp [q3U,-y0,-y5,-y4,y3,h1,c1,c2]
  ·simp [q3U,-y0,-y5,-y4,y3,h1,c1,c2]
theorem both_ev {w r:Sch} {e f:Int} (hw:SndE w e) (hr:SndE r f) (i k:Int):evA 76 [.agg (q8g w i),.agg (q8g r k)] (.int .i64 (botE e f w.types.length r.types.length i k)):=by
 have h1:=sone_ev hw i;have h2:=sone_ev hr k;refine q00 (c:=q3f) rfl rfl ?_;simp only [evA,schC] at h1 h2;unfold botE;by_cases c:oneE e w.types.length i=0
 ·rw [c] at h1;simp [q3f,-y0,-y5,-y4,y3,q8g,h1,h2,c]
 ·simp [q3f,-y0,-y5,-y4,y3,q8g,h1,h2,c]
theorem rerr_ev {w r:Sch} {e f:Int} (hw:SndE w e) (hr:SndE r f) (i k:Int):evA 43 [.agg (q8g w i),.agg (q8g r k)] (.int .i64 (botE e f w.types.length r.types.length i k)):=by
 have h1:=rone_ev hw i;have h2:=rone_ev hr k;refine q00 (c:=q4h) rfl rfl ?_;simp only [evA,schC] at h1 h2;unfold botE;by_cases c:oneE e w.types.length i=0
 ·rw [c] at h1;simp [q4h,-y0,-y5,-y4,y3,q8g,h1,h2,c]
 ·simp [q4h,-y0,-y5,-y4,y3,q8g,h1,h2,c]
theorem botE_in {e f:Int} {n m:Nat} {i k:Int} (h:botE e f n m i k=0):e=0/\f=0/\inP n m (i,k):=by
 unfold botE oneE at h;unfold inP;simp only;by_cases he:e=0
 ·by_cases hf:f=0
  ·subst he; subst hf;simp only [if_true] at h;by_cases c1:i<0\/(n:Int)<=i
   ·rw [if_pos c1] at h; simp at h
   ·by_cases c2:k<0\/(m:Int)<=k
    ·rw [if_neg c1,if_pos c2] at h; simp at h
    ·exact ⟨rfl,rfl,by omega⟩
  ·subst he;simp only [if_true,if_neg hf] at h;by_cases c1:i<0\/(n:Int)<=i
   ·rw [if_pos c1] at h; simp at h
   ·rw [if_neg c1] at h; simp at h; exact absurd h hf
 ·simp only [if_neg he] at h;exact absurd h he
theorem recF_pos {w:Vec}:∀ (l:List Mem) (c:Int),(∀ m∈l,1<=w m.ty.toNat)->1<=c->1<=recF w l c
 | [],c,_,hc=>hc
 | x :: r,c,hm,hc=>by
  rw [recF];have h1:=hm x yl;have h2:1 * 1<=c * w x.ty.toNat:=Int.mul_le_mul hc h1 (by decide) (by omega);exact recF_pos r _ (fun m h=>hm m (yp _ h)) (by omega)
theorem sumF_ge {w:Vec}:∀ (l:List Mem) (c:Int),(∀ m∈l,0<=w m.ty.toNat)->c<=sumF w l c/\((∃ m∈l,1<=w m.ty.toNat)->c + 1<=sumF w l c)
 | [],c,_=>⟨Int.le_refl _,fun h=>by obtain ⟨m,hm,_⟩:=h; cases hm⟩
 | x :: r,c,hm=>by
  rw [sumF];have h0:=hm x yl;obtain ⟨h1,h2⟩:=sumF_ge r (c + w x.ty.toNat) fun m h=>hm m (yp _ h)
  refine ⟨by omega,fun h=>?_⟩;obtain ⟨m,hmem,hp⟩:=h;rcases yj.1 hmem with rfl | hmem
  ·omega
  ·have:=h2 ⟨m,hmem,hp⟩;omega
theorem cnt_other {N:Nat} {w:Vec} (hw:inR N w) {x:Typ} (hx:q2e N x) (hg:q0Q x=true) (h5:x.kind≠5) (h6:x.kind≠6):1<=cntP x w:=by
 unfold cntP;by_cases h2:x.kind=2
 ·rw [if_pos h2]; split <;> omega
 rw [if_neg h2];by_cases h3:x.kind=3
 ·rw [if_pos h3]; split <;> omega
 rw [if_neg h3];by_cases h4:x.kind=4
 ·rw [if_pos h4];unfold q0Q at hg;rw [yb,yb] at hg;have ho:=hg.2.1;unfold q6O at ho;rw [if_neg h2,if_neg h3,if_pos h4,yb] at ho;have hs:=ho.2;unfold q8m at hs;rw [yb] at hs;have:=of_decide_eq_true hs.1;omega
 rw [if_neg h4,if_neg h5,if_neg h6];by_cases h7:x.kind=7
 ·rw [if_pos h7]; split <;> omega
 rw [if_neg h7];by_cases h8:x.kind=8
 ·rw [if_pos h8]; split <;> omega
 rw [if_neg h8];by_cases h9:x.kind=9
 ·rw [if_pos h9];have:=hx.elem (by omega);have:=hw x.elem.toNat (by omega);omega
 rw [if_neg h9];omega
theorem typZ_mn (l:List Nde) (i:Int):(typZ l i).mn=(typZ l i).mems.isEmpty:=by
 unfold typZ;generalize ndAt l i=x;simp only;split
 all_goals first | rfl | skip
 ·split
  ·rfl
  ·rename_i h; simp only [Typ.of]; simpa using h
 ·split <;> rfl
theorem q7b (l:List Nde):rwS l.length (q0d l) (q0d l):=by
 refine ⟨rfl,fun i a b ha hb=>?_⟩;rw [ha] at hb;injection hb with hb;subst hb;have hm:a.mn=a.mems.isEmpty:=by
  obtain ⟨hi,rfl⟩:=ye.1 ha;simp only [q0d,List.getElem_map,List.getElem_range];exact typZ_mn l _
 exact ⟨a.mems,rwL_refl _ _,by rw [<- hm]⟩
theorem frz_typsI {l:List Nde} {L:List (List AV)} {s:MSt} (h:q6T (q0d l) L s) {t N c:Nat} (hm:s.mem t N=some (q0g L)):AV.frz0 s (.ref t N 10 0 L.length c)=.sl false ((q0d l).map typC):=by
 have hL:(L.map fun c=>c.map (AV.frz1 s))=(q0d l).map typC:=by
  refine List.ext_getElem (by simp [h.1]) fun i h1 h2=>?_
  have hi:i<(q0d l).length:=by simpa using h2
  have hiL:i<L.length:=by simpa using h1
  obtain ⟨m,g1,g2⟩:=h.2 i _ _ (y7 hi) (y7 hiL);simp only [List.getElem_map];rw [g1];have hmn:(q0d l)[i].mn=(q0d l)[i].mems.isEmpty:=by
   simp only [q0d,List.getElem_map,List.getElem_range];exact typZ_mn l _
  have hc:AV.frz1 s m=.sl (q0d l)[i].mn ((q0d l)[i].mems.map memC):=by
   rw [hmn];rcases g2 with ⟨e,rfl⟩ | ⟨M,hne,_,rfl,hM⟩
   ·rw [e]; rfl
   ·have hie:(q0d l)[i].mems.isEmpty=false:=by simpa using hne
    have:=q5W (sz:=13) (els_mem (q0d l)[i].mems) (mems_free (q0d l)[i].mems);simp only [yx] at this;simp only [AV.frz1,hM,y0,this,hie]
  rw [<- typL_C];simp only [typL,yk,yn,hc];rfl
 rw [frz_row (h.toR 0).els hm (by rw [hL]; simp [typC,AV.free0]),hL]
theorem of07_ev {dn:Bool} {l:List Nde} (hx:∀ x∈l,x.ok):(oks l/\evA 34 [.agg (dftC dn l)] (.tup [.agg [.sl false ((q0d l).map typC)],.bool true]))\/(¬ oks l/\evA 34 [.agg (dftC dn l)] (.tup [.agg [.sl true []],.bool false])):=by
 have hres:q2Y.res=[.cell 2 true 1,.tmp 3]:=rfl;by_cases hl:1<=l.length/\l.length<=5
 ·left;refine ⟨⟨hl.1,hl.2,hx⟩,?_⟩;refine q00 (c:=q2Y) rfl rfl ?_;refine of_run (dn:=dn) ⟨hl.1,hl.2,hx⟩ _ rfl (fun t n row h=>by cases h) (fun t n row _ h=>by cases h) ?_ ?_ ?_ _ (fun s' h=>?_)
  ·intro t;rcases t with _ | t
   ·exact lowV_agg (fun c hc=>by simp only [dftC,List.mem_singleton] at hc; subst hc; exact q98 rfl)
   ·exact fun _ _ _=>rfl
  ·exact fun t _ _ _=>rfl
  ·exact fun t=>qb6 _
  ·obtain ⟨hc,e2,e3,lt,N,L,h2,hN,hlt,h168,hL,hT⟩:=h;have g2:=frz_typsI hT (c:=l.length) h168;rw [hL] at g2;have e2':(s'.env 2).v=.ptr 2 1 0:=e2;have h2':s'.mem 2 1=some [⟨.ref 168 N 10 0 l.length l.length,.no⟩]:=h2;have f1:AV.frz s' (.agg [.ref 168 N 10 0 l.length l.length])=.agg [.sl false ((q0d l).map typC)]:=by simp only [AV.frz,yk,yn,g2]
   have f2:AV.frz s' (.bool true)=.bool true:=rfl;simp [fin,hres,resC,e2',e3,h2',q17,f1,f2,finV,AV.free,AV.free0,pack,-AV.frz,-AV.frz0]
 ·right;refine ⟨fun h=>hl ⟨h.1,h.2.1⟩,?_⟩;refine q00 (c:=q2Y) rfl rfl ?_;refine of_bad hl _ rfl (fun t n row h=>by cases h) _ (fun s' hc e2 e3 h2=>?_);have e2':(s'.env 2).v=.ptr 2 1 0:=e2;have h2':s'.mem 2 1=some [⟨.sl true [],.no⟩]:=h2;simp [fin,hres,resC,e2',e3,h2',q17,finV,AV.free,AV.free0,pack]
theorem typZ_mem {l:List Nde} (hl:oks l) {i:Nat} (hi:i<l.length) {m:Mem} (hmem:m∈(typZ l (i:Int)).mems):∃ rc id p,p.ok/\q74 l (i:Int) id p=true/\m=memZ l (i:Int) rc id p:=by
 have hx:=q3w hl hi;unfold typZ at hmem;generalize ndAt l (i:Int)=x at *
 have hp:∀ rc,m∈q3i l (i:Int) rc x.parts->∃ rc id p,p.ok/\q74 l (i:Int) id p=true/\m=memZ l (i:Int) rc id p:=fun rc hmem=>by
  obtain ⟨id,p,_,_,h1,h2,h3⟩:=q6I 12 m hmem;exact ⟨rc,id,p,hx.2.2.2.2.2 p h1,h2,h3⟩
 simp only at hmem;split at hmem <;> first | (simp [Typ.of] at hmem; done) | exact hp _ hmem | skip
 all_goals split at hmem <;> first | (simp [Typ.of] at hmem; done) | exact hp _ hmem
theorem dflt_kind {l:List Nde} (hl:oks l) {T:List Typ} (h:rwS l.length (q0d l) T):∀ j,(hj:j<T.length)->∀ m∈T[j].mems,m.has=true->∀ y,T[m.ty.toNat]?=some y->y.kind≠5/\y.kind≠6:=fun j hj m hm hh y hy=>by
 have hjl:j<l.length:=by rw [<- rwS_len h]; exact hj
 obtain ⟨bs,hbs,hb⟩:=qa2 h hj;have hm':m∈bs:=by rw [hb] at hm; exact hm
 obtain ⟨i,hi,rfl⟩:=yC hm';have hia:i<(typZ l (j:Int)).mems.length:=by rw [hbs.1]; exact hi
 have hr:=hbs.2 i _ _ (y7 hia) (y7 hi);rcases hr.2.2.2 with h4 | ⟨_,_,h5,_⟩
 ·obtain ⟨rc,id,p,hpo,hp,he⟩:=typZ_mem hl hjl (y8 hia);rw [h4,he] at hh hy;simp only [q74,decide_eq_true_eq] at hp;have hrg:=q9r hl (j:Int) p.ty (by omega);simp only [memZ,yb] at hh hy;have h2:=hh.2;unfold q7k at h2;split at h2
  ·cases h2
  ·rename_i hk;obtain ⟨ht,hty⟩:=ye.1 hy;have htl:(tgtZ l (j:Int) p.ty).toNat<l.length:=by omega
   have hkd:=q9t l htl;have e1:(((tgtZ l (j:Int) p.ty).toNat:Nat):Int)=tgtZ l (j:Int) p.ty:=by omega
   have hrt:=rwT_kind (qa2 h ht);rw [e1] at hkd hrt;rw [<- hty,hrt,hkd];rw [if_neg (fun q=>hk (.inr q.1))];split
   ·decide
   ·split
    ·constructor <;> omega
    ·decide
 ·rw [h5] at hh; cases hh
theorem hol_ge {l:List Nde}:∀ n k,0<=q3v l n k->7<=kdAt l (q3v l n k)
 | 0,k,h=>by simp [q3v] at h
 | n + 1,k,h=>by
  rw [q3v] at h ⊢;by_cases c:7<=kdAt l k
  ·rw [if_pos c]; exact c
  ·rw [if_neg c] at h ⊢; exact hol_ge n (k + 1) h
theorem tgt_early {l:List Nde} (i code:Int) (h:0<=tgtZ l i code):7<=kdAt l (tgtZ l i code)\/tgtZ l i code<i:=by
 unfold tgtZ at h ⊢;split
 ·rename_i c; exact c
 ·rename_i c;rw [if_neg c] at h;split
  ·rename_i c2; exact .inr (yN _ c2)
  ·rename_i c2; rw [if_neg c2] at h; exact .inl (hol_ge _ _ h)
theorem typZ_ne {l:List Nde} {i:Int} (h:(typZ l i).kind=6):(typZ l i).mems≠[]:=by
 unfold typZ at h ⊢;generalize ndAt l i=x at *
 simp only at h ⊢;split at h
 all_goals first | (simp [Typ.of] at h; done) | skip
 ·rename_i hk;split at h
  ·simp [Typ.of] at h
  ·rename_i hn; rw [if_neg hn]; simpa using hn
 ·split at h <;> simp [Typ.of] at h
theorem draft_pos {l:List Nde} (hl:oks l) {w:Vec} (hw:Low (q0d l).length (FP (q0d l)) w) (fw:∀ j,j<(q0d l).length->FP (q0d l) j w=w j):∀ j,j<(q0d l).length->1<=w j:=by
 have hval:=rwS_valid hl (q7b l);have hW:=q20 hval;intro j
 induction j using Nat.strongRecOn with
 | ind j ih =>
  intro hj;have hjl:j<l.length:=by simpa [q0d] using hj
  have hx:(q0d l)[j]=typZ l (j:Int):=by simp [q0d]
  have hWj:=hW _ (y8 hj);have hG:q0Q (q0d l)[j]=true:=(q4O (q3F hval j hj)).1;have h:=fw j hj;unfold FP at h;rw [y7 hj] at h;simp only at h;have hmem:∀ m∈(q0d l)[j].mems,1<=w m.ty.toNat:=fun m hm=>by
   rw [hx] at hm;obtain ⟨rc,id,p,hpo,hp,rfl⟩:=typZ_mem hl hjl hm;simp only [q74,decide_eq_true_eq] at hp;have hrg:=q9r hl (j:Int) p.ty (by omega);have hdl:(q0d l).length=l.length:=by simp [q0d]
   show 1<=w (tgtZ l (j:Int) p.ty).toNat;rcases tgt_early (j:Int) p.ty hp.2 with h7 | hlt
   ·have htl:(tgtZ l (j:Int) p.ty).toNat<l.length:=by omega
    have hkd:=q9t l htl;have e1:(((tgtZ l (j:Int) p.ty).toNat:Nat):Int)=tgtZ l (j:Int) p.ty:=by omega
    have hy:(q0d l)[(tgtZ l (j:Int) p.ty).toNat]'(by omega)=typZ l (((tgtZ l (j:Int) p.ty).toNat:Nat):Int):=by simp [q0d]
    have hk7:7<=(typZ l (((tgtZ l (j:Int) p.ty).toNat:Nat):Int)).kind:=by
     rw [hkd,e1,if_neg (by omega)];split
     ·omega
     ·split <;> omega
    have hf:=fw (tgtZ l (j:Int) p.ty).toNat (by omega);unfold FP at hf;rw [y7 (by omega)] at hf;simp only at hf;have hc:=cnt_other hw.rng (hW _ (y8 (show (tgtZ l (j:Int) p.ty).toNat<(q0d l).length by omega))) (q4O (q3F hval _ (by omega))).1 (by rw [hy]; omega) (by rw [hy]; omega);omega
   ·exact ih _ (by omega) (by omega)
  have key:1<=cntP (q0d l)[j] w:=by
   by_cases h5:(q0d l)[j].kind=5
   ·unfold cntP;simp only [h5];exact recF_pos _ _ hmem (by decide)
   by_cases h6:(q0d l)[j].kind=6
   ·unfold cntP;simp only [h6];have hne:(q0d l)[j].mems≠[]:=by
     rw [hx] at h6 ⊢;exact typZ_ne h6
    obtain ⟨m,hm⟩:=List.exists_mem_of_ne_nil _ hne;have:=(sumF_ge (w:=w) (q0d l)[j].mems 0 (fun m hm=>by have:=hmem m hm; omega)).2 ⟨m,hm,hmem m hm⟩;simpa using this
   exact cnt_other hw.rng hWj hG h5 h6
  omega
theorem allPos_t {w:Vec}:∀ {n:Nat},(∀ j,j<n->1<=w j)->q5d w n=true
 | 0,_=>rfl
 | n + 1,h=>by
  unfold q5d;rw [allPos_t (n:=n) (fun j hj=>h j (by omega)),decide_eq_true (by have:=h n (by omega); omega)];rfl
theorem draft_sound {l:List Nde} (hl:oks l):SndE ⟨false,q0d l⟩ 0:=by
 obtain ⟨hf,h6⟩:=rwS_ok hl (q7b l);have herr:=rwS_err hl (q7b l);obtain ⟨w,hw,fw,h1,h2⟩:=both_cnts ⟨false,q0d l⟩ (rwS_valid hl (q7b l));have hp:=draft_pos hl hw fw;have hs:soundE (q0d l) w=0:=by
  unfold soundE;rw [if_pos herr,allPos_t hp];rfl
 have e1:=sound_ev ⟨false,q0d l⟩ hf h6 (w:=w) (fun _=>⟨hw.rng,h1⟩);have e2:=rsound_ev ⟨false,q0d l⟩ hf h6 (w:=w) (fun _=>⟨hw.rng,h2⟩);rw [show (⟨false,q0d l⟩:Sch).types=q0d l from rfl,hs] at e1 e2;exact ⟨e1,e2⟩
def keyN (W:List Typ) (x:Typ):Int:=match W[x.key.toNat]? with
 | some t=>keysR t
 | none=>0
def rsnP (mns:Mem->Mem->Bool) (W:List Typ) (x y:Typ):Int :=
 if x.kind≠y.kind then 9
 else if x.kind=2 then (if x.low<y.low\/y.high<x.high then 2 else 0)
 else if x.kind=3\/x.kind=7 then (if y.max<x.max then 3 else 0)
 else if x.kind=8 then (if y.max<min x.max (keyN W x) then 3 else 0)
 else if x.kind=4 then (if y.opn=true\/allP x y=true then 0 else 4)
 else if x.kind=6 then (if y.opn=true\/allP x y=true then 0 else 5)
 else if x.kind=5 then q9F mns x.mems y.mems else 0
structure TyGd (W:List Typ) (x:Typ):Prop where
 syms:x.syms.length<=8796093022206
 mems:x.mems.length<=8796093022206
 key:x.kind=8->0<=x.key/\x.max<=50/\∃ t,W[x.key.toNat]?=some t/\1<=t.kind/\t.kind<=4/\t.sm
def rdOk (x y:Typ) (v:Vl):Bool:=decide (x.kind=y.kind)&&(if y.kind=2 then decide (y.low<=v.i)&&decide (v.i<=y.high) else if y.kind=3 then decide ((v.s.size:Int)<=y.max) else if y.kind=4 then decide (0<=q5c y.syms v.id)||y.opn else true)
def rdV (b:Bool) (v:Vl):Vl:=if b=true then v else .of 0 false 0 ⟨#[]⟩ 0
theorem of_i (k:Int) (b:Bool) (i:Int) (s:ByteArray) (d:Int):(Vl.of k b i s d).i=i:=rfl
theorem of_s (k:Int) (b:Bool) (i:Int) (s:ByteArray) (d:Int):(Vl.of k b i s d).s=s:=rfl
theorem of_id (k:Int) (b:Bool) (i:Int) (s:ByteArray) (d:Int):(Vl.of k b i s d).id=d:=rfl
theorem reason_ev (w r:Sch) {x y:Typ} {i k:Int} (hi:0<=i) (gx:w.types[i.toNat]?=some x) (hk:0<=k) (gy:r.types[k.toNat]?=some y) (hx:TyGd w.types x) (hy:TyGd r.types y) {mns:Mem->Mem->Bool} (hR:Means2 w r mns x.mems y.mems):evA 77 [.agg (schC w),.int .i64 i,.agg (schC r),.int .i64 k] (.int .i64 (rsnP mns w.types x y)):=by
 have g1:(w.types.map typC)[i.toNat]?=some (typC x):=by rw [yf,gx]; rfl
 have g2:(r.types.map typC)[k.toNat]?=some (typC y):=by rw [yf,gy]; rfl
 have hcov:=covered_ev x y hx.syms hx.mems hy.syms hy.mems;have hmem:=smembers_ev w r x y hx.mems hy.mems hR;simp only [evA,schC,typC] at hcov hmem g1 g2;refine q00 (c:=q0e) rfl rfl ?_;unfold rsnP;by_cases e:x.kind=y.kind
 case neg=>simp [q0e,-y0,-y5,-y4,y3,schC,g1,g2,hi,hk,e]
 rw [if_neg (by simpa using e),e];simp only [e] at hcov hmem;by_cases k2:y.kind=2
 ·by_cases c1:x.low<y.low
  ·simp [q0e,-y0,-y5,-y4,y3,schC,g1,g2,hi,hk,e,k2,c1]
  ·by_cases c2:y.high<x.high
   ·simp [q0e,-y0,-y5,-y4,y3,schC,g1,g2,hi,hk,e,k2,c1,c2]
   ·simp [q0e,-y0,-y5,-y4,y3,schC,g1,g2,hi,hk,e,k2,c1,c2]
 by_cases k3:y.kind=3
 ·by_cases c1:y.max<x.max
  ·simp [q0e,-y0,-y5,-y4,y3,schC,g1,g2,hi,hk,e,k3,c1]
  ·simp [q0e,-y0,-y5,-y4,y3,schC,g1,g2,hi,hk,e,k3,c1]
 by_cases k7:y.kind=7
 ·by_cases c1:y.max<x.max
  ·simp [q0e,-y0,-y5,-y4,y3,schC,g1,g2,hi,hk,e,k7,c1]
  ·simp [q0e,-y0,-y5,-y4,y3,schC,g1,g2,hi,hk,e,k7,c1]
 by_cases k8:y.kind=8
 ·obtain ⟨h0,h50,t,gt,t1,t4,tsm⟩:=hx.key (e.trans k8);have g3:(w.types.map typC)[x.key.toNat]?=some (typC t):=by rw [yf,gt]; rfl
  have hkk:=keys_ev t tsm;have hmin:=keys_min t ⟨t1,t4⟩ tsm (m:=x.max) (n:=y.max) h50;simp only [evA,typC] at hkk g3;have hkn:keyN w.types x=keysR t:=by unfold keyN; rw [gt]
  rw [hkn];by_cases c1:y.max<min x.max (keysP t)
  ·have c2:=hmin.1 c1;simp only [c2,if_true];generalize keysP t=q at *
   simp [q0e,-y0,-y5,-y4,y3,schC,g1,g2,g3,h0,hkk,hi,hk,e,k2,k3,k7,k8];rw [decide_eq_true c1];rfl
  ·have c2:¬ y.max<min x.max (keysR t):=fun h=>c1 (hmin.2 h)
   simp only [c2,if_false];generalize keysP t=q at *
   simp [q0e,-y0,-y5,-y4,y3,schC,g1,g2,g3,h0,hkk,hi,hk,e,k2,k3,k7,k8];rw [decide_eq_false c1];rfl
 by_cases k4:y.kind=4
 ·rw [k4] at hcov;cases c1:(y.opn||allP x y) with
  | true =>
   rw [c1] at hcov;rw [Bool.or_eq_true] at c1;simp [q0e,-y0,-y5,-y4,y3,schC,g1,g2,hi,hk,e,k4,hcov,c1]
  | false =>
   rw [c1] at hcov;rw [Bool.or_eq_false_iff] at c1;obtain ⟨c2,c3⟩:=c1;rw [c2] at hcov;simp [q0e,-y0,-y5,-y4,y3,schC,g1,g2,hi,hk,e,k4,hcov,c2,c3]
 by_cases k6:y.kind=6
 ·rw [k6] at hcov;cases c1:(y.opn||allP x y) with
  | true =>
   rw [c1] at hcov;rw [Bool.or_eq_true] at c1;simp [q0e,-y0,-y5,-y4,y3,schC,g1,g2,hi,hk,e,k6,hcov,c1]
  | false =>
   rw [c1] at hcov;rw [Bool.or_eq_false_iff] at c1;obtain ⟨c2,c3⟩:=c1;rw [c2] at hcov;simp [q0e,-y0,-y5,-y4,y3,schC,g1,g2,hi,hk,e,k6,hcov,c2,c3]
 by_cases k5:y.kind=5
 ·rw [k5] at hmem;simp [q0e,-y0,-y5,-y4,y3,schC,g1,g2,hi,hk,e,k5,hmem]
 ·simp [q0e,-y0,-y5,-y4,y3,schC,g1,g2,hi,hk,e,k2,k3,k4,k5,k6,k7,k8]
theorem rreason_ev (w r:Sch) {x y:Typ} {i k:Int} (hi:0<=i) (gx:w.types[i.toNat]?=some x) (hk:0<=k) (gy:r.types[k.toNat]?=some y) (hx:TyGd w.types x) (hy:TyGd r.types y) {mns:Mem->Mem->Bool} (hR:Means2 w r mns x.mems y.mems):evA 78 [.agg (schC w),.int .i64 i,.agg (schC r),.int .i64 k] (.int .i64 (rsnP mns w.types x y)):=by
 have g1:(w.types.map typC)[i.toNat]?=some (typC x):=by rw [yf,gx]; rfl
 have g2:(r.types.map typC)[k.toNat]?=some (typC y):=by rw [yf,gy]; rfl
 have hcov:=rall_ev x y hx.syms hx.mems hy.syms hy.mems;have hmem:=rrecord_ev w r x y hx.mems hy.mems hR;simp only [evA,schC,typC] at hcov hmem g1 g2;refine q00 (c:=q0s) rfl rfl ?_;unfold rsnP;by_cases e:x.kind=y.kind
 case neg=>simp [q0s,-y0,-y5,-y4,y3,schC,g1,g2,hi,hk,e]
 rw [if_neg (by simpa using e),e];simp only [e] at hcov hmem;by_cases k2:y.kind=2
 ·by_cases c1:x.low<y.low
  ·simp [q0s,-y0,-y5,-y4,y3,schC,g1,g2,hi,hk,e,k2,c1]
  ·by_cases c2:y.high<x.high
   ·simp [q0s,-y0,-y5,-y4,y3,schC,g1,g2,hi,hk,e,k2,c1,c2]
   ·simp [q0s,-y0,-y5,-y4,y3,schC,g1,g2,hi,hk,e,k2,c1,c2]
 by_cases k3:y.kind=3
 ·by_cases c1:y.max<x.max
  ·simp [q0s,-y0,-y5,-y4,y3,schC,g1,g2,hi,hk,e,k3,c1]
  ·simp [q0s,-y0,-y5,-y4,y3,schC,g1,g2,hi,hk,e,k3,c1]
 by_cases k7:y.kind=7
 ·by_cases c1:y.max<x.max
  ·simp [q0s,-y0,-y5,-y4,y3,schC,g1,g2,hi,hk,e,k7,c1]
  ·simp [q0s,-y0,-y5,-y4,y3,schC,g1,g2,hi,hk,e,k7,c1]
 by_cases k8:y.kind=8
 ·obtain ⟨h0,h50,t,gt,t1,t4,tsm⟩:=hx.key (e.trans k8);have g3:(w.types.map typC)[x.key.toNat]?=some (typC t):=by rw [yf,gt]; rfl
  have hkk:=rkeys_ev t tsm;simp only [evA,typC] at hkk g3;have hkn:keyN w.types x=keysR t:=by unfold keyN; rw [gt]
  rw [hkn];generalize keysR t=q at *
  by_cases c1:y.max<min x.max q
  ·simp only [c1,if_true];simp [q0s,-y0,-y5,-y4,y3,schC,g1,g2,g3,h0,hkk,hi,hk,e,k2,k3,k7,k8];rw [decide_eq_true c1];rfl
  ·simp only [c1,if_false];simp [q0s,-y0,-y5,-y4,y3,schC,g1,g2,g3,h0,hkk,hi,hk,e,k2,k3,k7,k8];rw [decide_eq_false c1];rfl
 by_cases k4:y.kind=4
 ·rw [k4] at hcov;cases c0:y.opn <;> rw [c0] at hcov <;> cases c1:allP x y <;> rw [c1] at hcov <;> simp [q0s,-y0,-y5,-y4,y3,schC,g1,g2,hi,hk,e,k4,hcov,c0]
 by_cases k6:y.kind=6
 ·rw [k6] at hcov;cases c0:y.opn <;> rw [c0] at hcov <;> cases c1:allP x y <;> rw [c1] at hcov <;> simp [q0s,-y0,-y5,-y4,y3,schC,g1,g2,hi,hk,e,k6,hcov,c0]
 by_cases k5:y.kind=5
 ·rw [k5] at hmem;simp [q0s,-y0,-y5,-y4,y3,schC,g1,g2,hi,hk,e,k5,hmem]
 ·simp [q0s,-y0,-y5,-y4,y3,schC,g1,g2,hi,hk,e,k2,k3,k4,k5,k6,k7,k8]
theorem vclone0:evA 228 [.sl true []] (.sl true []):=by
 refine q00 (c:=q37) rfl rfl ?_;simp [q37,-y0,-y5,-y4,y3,isNil]
def pairC (w r:Sch):List AV:=[.sl w.nl (w.types.map typC),.sl r.nl (r.types.map typC),.sl true [],.sl true []]
theorem pfail_ev (w r:Sch):evC allT q01 216 [.undef,.undef,.ptr 0 0 0] (some (.agg (pairC w r)))=some (.tup [.agg [.int .i64 0,.bool false,.int .i64 0,.str ⟨#[]⟩,.int .i64 0,.sl true [],.sl true [],.sl true []],.bool false],some (.agg (pairC w r))):=by
 have hc:=vclone0;simp only [evA] at hc;refine q9z q2J rfl rfl ?_;simp [q2J,-y0,-y5,-y4,y3,q1s,q3j,q2n,q5w,q1y,finR,q6B,pairC,hc]
theorem pparts_ev (w r:Sch) (a b:Int):evC allT q01 219 [.undef,.undef,.ptr 0 0 0,.int .i64 a,.sl true [],.int .i64 b] (some (.agg (pairC w r)))=some (.tup [.sl true [],.bool true],some (.agg (pairC w r))):=by
 refine q9z q2w rfl rfl ?_;simp [q2w,-y0,-y5,-y4,y3,q1s,q3j,q2n,q5w,q1y,finR,q6B,pairC];refine q0f 0 (fun _ s=>(s.env 16).v=.int .i64 0/\(s.env 17).v=.int .i64 0/\(s.env 10).v=.sl true []/\s.mem 0 0=some [⟨.sl w.nl (w.types.map typC),q1y (.sl w.nl (w.types.map typC))⟩,⟨.sl r.nl (r.types.map typC),q1y (.sl r.nl (r.types.map typC))⟩,⟨.sl true [],.ex⟩,⟨.sl true [],.ex⟩])
  (fun e s=>e=.exit 0/\(s.env 10).v=.sl true []/\s.mem 0 0=some [⟨.sl w.nl (w.types.map typC),q1y (.sl w.nl (w.types.map typC))⟩,⟨.sl r.nl (r.types.map typC),q1y (.sl r.nl (r.types.map typC))⟩,⟨.sl true [],.ex⟩,⟨.sl true [],.ex⟩]) (fun i hi s k h ih hk=>?_) _ _ ?_ (fun e s h=>?_)
 ·obtain ⟨e16,e17,e10,m0⟩:=h;refine q04 ?_;simp [q47,-y0,-y5,-y4,y3,e16,e17];exact hk _ _ ⟨rfl,by simp [e10],m0⟩
 ·refine ⟨?_,?_,?_,?_⟩ <;> simp [q1y]
 ·obtain ⟨rfl,e10,m0⟩:=h;simp [-y0,-y5,-y4,y3,finR,q6B,e10,m0]
theorem pread_ev (w r:Sch) {x y:Typ} {i k:Int} (hi:0<=i) (gx:w.types[i.toNat]?=some x) (hk:0<=k) (gy:r.types[k.toNat]?=some y) (hys:y.syms.length<=8796093022206) (hmax:y.kind=7\/y.kind=8->0<=y.max) (h56:x.kind≠5/\x.kind≠6) (vk:Int) (vb:Bool) (vi:Int) (vs:ByteArray) (vd:Int) :
  evC allT q01 195 [.undef,.undef,.ptr 0 0 0,.int .i64 i,.agg (valC (.of vk vb vi vs vd)),.int .i64 k] (some (.agg (pairC w r)))=some (.tup [.agg (valC (rdV (rdOk x y (.of vk vb vi vs vd)) (.of vk vb vi vs vd))),.bool (rdOk x y (.of vk vb vi vs vd))],some (.agg (pairC w r))):=by
 have g1:(w.types.map typC)[i.toNat]?=some (typC x):=by rw [yf,gx]; rfl
 have g2:(r.types.map typC)[k.toNat]?=some (typC y):=by rw [yf,gy]; rfl
 have hf:=pfail_ev w r;have hp:=fun a b=>pparts_ev w r a b
 have hsy:=sym_ev y vd (by omega);obtain ⟨h5,h6⟩:=h56;simp only [evA,pairC,typC,symA] at hf hp hsy g1 g2;refine q9z q0j rfl rfl ?_;simp only [pairC,q0o,rdOk];by_cases e:x.kind=y.kind
 case neg=>simp [q0j,-y0,-y5,-y4,y3,q1s,q3j,q2n,q5w,q1y,finR,q6B,g1,g2,hi,hk,e,hf,rdV,q0o]
 rw [e] at h5 h6;by_cases k2:y.kind=2
 ·by_cases c1:y.low<=vi
  ·by_cases c2:vi<=y.high
   ·simp [q0j,-y0,-y5,-y4,y3,q1s,q3j,q2n,q5w,q1y,finR,q6B,g1,g2,hi,hk,e,k2,c1,c2,hp,rdV,q0o,of_i]
   ·simp [q0j,-y0,-y5,-y4,y3,q1s,q3j,q2n,q5w,q1y,finR,q6B,g1,g2,hi,hk,e,k2,c1,c2,hf,rdV,q0o,of_i]
  ·simp [q0j,-y0,-y5,-y4,y3,q1s,q3j,q2n,q5w,q1y,finR,q6B,g1,g2,hi,hk,e,k2,c1,hf,rdV,q0o,of_i]
 by_cases k3:y.kind=3
 ·by_cases c1:(vs.size:Int)<=y.max
  ·simp [q0j,-y0,-y5,-y4,y3,q1s,q3j,q2n,q5w,q1y,finR,q6B,g1,g2,hi,hk,e,k3,c1,hp,rdV,q0o,of_s]
  ·simp [q0j,-y0,-y5,-y4,y3,q1s,q3j,q2n,q5w,q1y,finR,q6B,g1,g2,hi,hk,e,k3,c1,hf,rdV,q0o,of_s]
 by_cases k4:y.kind=4
 ·rw [k4] at hsy;by_cases c1:0<=q5c y.syms vd
  ·simp only [c1,decide_true] at hsy;simp [q0j,-y0,-y5,-y4,y3,q1s,q3j,q2n,q5w,q1y,finR,q6B,g1,g2,hi,hk,e,k4,c1,hsy,hp,rdV,q0o,of_id]
  ·simp only [c1,decide_false] at hsy;cases ho:y.opn with
   | true =>
    rw [ho] at hsy;simp [q0j,-y0,-y5,-y4,y3,q1s,q3j,q2n,q5w,q1y,finR,q6B,g1,g2,hi,hk,e,k4,c1,ho,hsy,hp,rdV,q0o,of_id]
   | false =>
    rw [ho] at hsy;simp [q0j,-y0,-y5,-y4,y3,q1s,q3j,q2n,q5w,q1y,finR,q6B,g1,g2,hi,hk,e,k4,c1,ho,hsy,hf,rdV,q0o,of_id]
 by_cases k7:y.kind=7
 ·have hm:=hmax (.inl k7);simp [q0j,-y0,-y5,-y4,y3,q1s,q3j,q2n,q5w,q1y,finR,q6B,g1,g2,hi,hk,e,k7,hm,hp,rdV,q0o]
 by_cases k8:y.kind=8
 ·have hm:=hmax (.inr k8);simp [q0j,-y0,-y5,-y4,y3,q1s,q3j,q2n,q5w,q1y,finR,q6B,g1,g2,hi,hk,e,k8,hm,hp,rdV,q0o]
 simp [q0j,-y0,-y5,-y4,y3,q1s,q3j,q2n,q5w,q1y,finR,q6B,g1,g2,hi,hk,e,k2,k3,k4,h5,h6,k7,k8,hp,rdV,q0o]
theorem rmis_ev:evA 122 [.sl true []] (.agg [.int .i64 0,.bool false,.int .i64 0,.str ⟨#[]⟩,.int .i64 0,.sl true [],.sl true [],.sl true [],.sl false [],.bool false]):=by
 refine q00 (c:=q4g) rfl rfl ?_;have h0:q10 8 0=true:=by decide
 simp [q4g,-y0,-y5,-y4,y3,h0]
theorem rok_ev (vk:Int) (vb:Bool) (vi:Int) (vs:ByteArray) (vd:Int):evA 127 [.agg (valC (.of vk vb vi vs vd))] (.agg [.int .i64 vk,.bool vb,.int .i64 vi,.str vs,.int .i64 vd,.sl true [],.sl true [],.sl true [],.sl true [],.bool true]):=by
 refine q00 (c:=q69) rfl rfl ?_;rw [q0o];simp [q69,-y0,-y5,-y4,y3]
theorem rread_ev (w r:Sch) {x y:Typ} {i k:Int} (hi:0<=i) (gx:w.types[i.toNat]?=some x) (hk:0<=k) (gy:r.types[k.toNat]?=some y) (hys:y.syms.length<=8796093022206) (hmax:y.kind=7\/y.kind=8->0<=y.max) (h56:x.kind≠5/\x.kind≠6) (vk:Int) (vb:Bool) (vi:Int) (vs:ByteArray) (vd:Int) :
  evA 75 [.agg (schC w),.int .i64 i,.agg (valC (.of vk vb vi vs vd)),.agg (schC r),.int .i64 k,.sl true []] (.agg (valC (rdV (rdOk x y (.of vk vb vi vs vd)) (.of vk vb vi vs vd))++[.sl (rdOk x y (.of vk vb vi vs vd)) [],.bool (rdOk x y (.of vk vb vi vs vd))])):=by
 have g1:(w.types.map typC)[i.toNat]?=some (typC x):=by rw [yf,gx]; rfl
 have g2:(r.types.map typC)[k.toNat]?=some (typC y):=by rw [yf,gy]; rfl
 have hf:=rmis_ev;have hp:=rok_ev vk vb vi vs vd;have hsy:=rsym_ev y vd (by omega);obtain ⟨h5,h6⟩:=h56;simp only [evA,typC,symA,q0o] at hf hp hsy g1 g2;refine q00 (c:=q0Z) rfl rfl ?_;simp only [schC,q0o,rdOk];by_cases e:x.kind=y.kind
 case neg=>simp [q0Z,-y0,-y5,-y4,y3,g1,g2,hi,hk,e,hf,rdV,q0o]
 rw [e] at h5 h6;have l2:∀ s k r',(s.env 8).v=.ptr 8 1 0->(s.env 18).v=.int .i64 0->s.mem 8 1=some [⟨.int .i64 vk,.no⟩,⟨.bool vb,.no⟩,⟨.int .i64 vi,.no⟩,⟨.str vs,.no⟩,⟨.int .i64 vd,.no⟩,⟨.sl true [],.no⟩,⟨.sl true [],.no⟩,⟨.sl true [],.no⟩] →
   (∀ s',s'.mem=s.mem->(∀ t,t<20->s'.env t=s.env t)->k (.exit 0) s'=some r')->evL allT q01 q5K s k=some r':=fun s k r' e8 e18 m8 hk=>by
  refine q04 ?_;simp [q5K,-y0,-y5,-y4,y3,e8,e18,m8];exact hk _ rfl (fun t ht=>by simp; repeat (rw [if_neg (by omega)]))
 have l1:∀ s k r',(s.env 8).v=.ptr 8 1 0->(s.env 20).v=.int .i64 0->s.mem 8 1=some [⟨.int .i64 vk,.no⟩,⟨.bool vb,.no⟩,⟨.int .i64 vi,.no⟩,⟨.str vs,.no⟩,⟨.int .i64 vd,.no⟩,⟨.sl true [],.no⟩,⟨.sl true [],.no⟩,⟨.sl true [],.no⟩] →
   (∀ s',s'.mem=s.mem->(∀ t,t<20->s'.env t=s.env t)->k (.exit 2) s'=some r')->evL allT q01 q5J s k=some r':=fun s k r' e8 e20 m8 hk=>by
  refine q04 ?_;simp [q5J,-y0,-y5,-y4,y3,e8,e20,m8];exact hk _ rfl (fun t ht=>by simp; repeat (rw [if_neg (by omega)]))
 by_cases k2:y.kind=2
 ·by_cases c1:vi<y.low
  ·have d1:¬ y.low<=vi:=by omega
   simp [q0Z,-y0,-y5,-y4,y3,g1,g2,hi,hk,e,k2,c1,d1,hf,rdV,q0o,of_i]
  ·have d1:y.low<=vi:=by omega
   by_cases c2:y.high<vi
   ·have d2:¬ vi<=y.high:=by omega
    simp [q0Z,-y0,-y5,-y4,y3,g1,g2,hi,hk,e,k2,c1,c2,d1,d2,hf,rdV,q0o,of_i]
   ·have d2:vi<=y.high:=by omega
    simp [q0Z,-y0,-y5,-y4,y3,g1,g2,hi,hk,e,k2,c1,c2,d1,d2,rdV,q0o,of_i];refine l2 _ _ _ ?_ ?_ ?_ (fun s' hm he=>?_)
    ·simp
    ·simp
    ·simp
    ·have a8:=he 8 (by omega);have a12:=he 12 (by omega);have a17:=he 17 (by omega);simp at a8 a12 a17;simp [-y0,-y5,-y4,y3,hm,a8,a12,a17];refine l1 _ _ _ ?_ ?_ ?_ (fun s2 hm2 he2=>?_)
     ·simp [a8]
     ·simp
     ·simp
     ·have b12:=he2 12 (by omega);have b17:=he2 17 (by omega);simp [a12,a17] at b12 b17;simp [-y0,-y5,-y4,y3,hm2,b12,b17,hp,rdV,q0o]
 by_cases k3:y.kind=3
 ·by_cases c1:(vs.size:Int)<=y.max
  ·have d1:¬ y.max<(vs.size:Int):=by omega
   simp [q0Z,-y0,-y5,-y4,y3,g1,g2,hi,hk,e,k3,c1,d1,rdV,q0o,of_s];refine l2 _ _ _ ?_ ?_ ?_ (fun s' hm he=>?_)
   ·simp
   ·simp
   ·simp
   ·have a8:=he 8 (by omega);have a12:=he 12 (by omega);have a17:=he 17 (by omega);simp at a8 a12 a17;simp [-y0,-y5,-y4,y3,hm,a8,a12,a17];refine l1 _ _ _ ?_ ?_ ?_ (fun s2 hm2 he2=>?_)
    ·simp [a8]
    ·simp
    ·simp
    ·have b12:=he2 12 (by omega);have b17:=he2 17 (by omega);simp [a12,a17] at b12 b17;simp [-y0,-y5,-y4,y3,hm2,b12,b17,hp,rdV,q0o]
  ·have d1:y.max<(vs.size:Int):=by omega
   simp [q0Z,-y0,-y5,-y4,y3,g1,g2,hi,hk,e,k3,c1,d1,hf,rdV,q0o,of_s]
 by_cases k4:y.kind=4
 ·rw [k4] at hsy;by_cases c1:0<=q5c y.syms vd
  ·simp only [c1,decide_true] at hsy;simp [q0Z,-y0,-y5,-y4,y3,g1,g2,hi,hk,e,k4,c1,hsy,rdV,q0o,of_id];refine l2 _ _ _ ?_ ?_ ?_ (fun s' hm he=>?_)
   ·simp
   ·simp
   ·simp
   ·have a8:=he 8 (by omega);have a12:=he 12 (by omega);have a17:=he 17 (by omega);simp at a8 a12 a17;simp [-y0,-y5,-y4,y3,hm,a8,a12,a17];refine l1 _ _ _ ?_ ?_ ?_ (fun s2 hm2 he2=>?_)
    ·simp [a8]
    ·simp
    ·simp
    ·have b12:=he2 12 (by omega);have b17:=he2 17 (by omega);simp [a12,a17] at b12 b17;simp [-y0,-y5,-y4,y3,hm2,b12,b17,hp,rdV,q0o]
  ·simp only [c1,decide_false] at hsy;cases ho:y.opn with
   | true =>
    rw [ho] at hsy;simp [q0Z,-y0,-y5,-y4,y3,g1,g2,hi,hk,e,k4,c1,ho,hsy,rdV,q0o,of_id];refine l2 _ _ _ ?_ ?_ ?_ (fun s' hm he=>?_)
    ·simp
    ·simp
    ·simp
    ·have a8:=he 8 (by omega);have a12:=he 12 (by omega);have a17:=he 17 (by omega);simp at a8 a12 a17;simp [-y0,-y5,-y4,y3,hm,a8,a12,a17];refine l1 _ _ _ ?_ ?_ ?_ (fun s2 hm2 he2=>?_)
     ·simp [a8]
     ·simp
     ·simp
     ·have b12:=he2 12 (by omega);have b17:=he2 17 (by omega);simp [a12,a17] at b12 b17;simp [-y0,-y5,-y4,y3,hm2,b12,b17,hp,rdV,q0o]
   | false =>
    rw [ho] at hsy;simp [q0Z,-y0,-y5,-y4,y3,g1,g2,hi,hk,e,k4,c1,ho,hsy,hf,rdV,q0o,of_id]
 by_cases k7:y.kind=7
 ·have hm:=hmax (.inl k7);have d1:¬ y.max<0:=by omega
  simp [q0Z,-y0,-y5,-y4,y3,g1,g2,hi,hk,e,k7,hm,d1,rdV,q0o];refine l2 _ _ _ ?_ ?_ ?_ (fun s' hm he=>?_)
  ·simp
  ·simp
  ·simp
  ·have a8:=he 8 (by omega);have a12:=he 12 (by omega);have a17:=he 17 (by omega);simp at a8 a12 a17;simp [-y0,-y5,-y4,y3,hm,a8,a12,a17];refine l1 _ _ _ ?_ ?_ ?_ (fun s2 hm2 he2=>?_)
   ·simp [a8]
   ·simp
   ·simp
   ·have b12:=he2 12 (by omega);have b17:=he2 17 (by omega);simp [a12,a17] at b12 b17;simp [-y0,-y5,-y4,y3,hm2,b12,b17,hp,rdV,q0o]
 by_cases k8:y.kind=8
 ·have hm:=hmax (.inr k8);have d1:¬ y.max<0:=by omega
  simp [q0Z,-y0,-y5,-y4,y3,g1,g2,hi,hk,e,k8,hm,d1,rdV,q0o];refine l2 _ _ _ ?_ ?_ ?_ (fun s' hm he=>?_)
  ·simp
  ·simp
  ·simp
  ·have a8:=he 8 (by omega);have a12:=he 12 (by omega);have a17:=he 17 (by omega);simp at a8 a12 a17;simp [-y0,-y5,-y4,y3,hm,a8,a12,a17];refine l1 _ _ _ ?_ ?_ ?_ (fun s2 hm2 he2=>?_)
   ·simp [a8]
   ·simp
   ·simp
   ·have b12:=he2 12 (by omega);have b17:=he2 17 (by omega);simp [a12,a17] at b12 b17;simp [-y0,-y5,-y4,y3,hm2,b12,b17,hp,rdV,q0o]
 simp [q0Z,-y0,-y5,-y4,y3,g1,g2,hi,hk,e,k2,k3,k4,h5,h6,k7,k8,rdV,q0o];refine l2 _ _ _ ?_ ?_ ?_ (fun s' hm he=>?_)
 ·simp
 ·simp
 ·simp
 ·have a8:=he 8 (by omega);have a12:=he 12 (by omega);have a17:=he 17 (by omega);simp at a8 a12 a17;simp [-y0,-y5,-y4,y3,hm,a8,a12,a17];refine l1 _ _ _ ?_ ?_ ?_ (fun s2 hm2 he2=>?_)
  ·simp [a8]
  ·simp
  ·simp
  ·have b12:=he2 12 (by omega);have b17:=he2 17 (by omega);simp [a12,a17] at b12 b17;simp [-y0,-y5,-y4,y3,hm2,b12,b17,hp,rdV,q0o]
theorem mexists_ev (s:Sch) (hs:s.fine) (hv:valid s.types=0) {i:Int} (h0:0<=i) (h1:i<s.types.length):evA 214 [.agg (schC s),.int .i64 i] (.int .i64 0):=by
 have h:=valid_ev s hs;rw [hv] at h;refine q00 (c:=q3I) rfl rfl ?_;simp only [evA,schC] at h ⊢;have c1:¬ i<0:=by omega
 have c2:¬ (s.types.length:Int)<=i:=by omega
 simp [q3I,-y0,-y5,-y4,y3,h,c1,c2]
theorem r10_ev (s:Sch) (hs:s.fine) (hv:valid s.types=0) {i:Int} (h0:0<=i) (h1:i<s.types.length):evA 120 [.agg (schC s),.int .i64 i] (.int .i64 0):=by
 have h:=rvalid_ev s hs;rw [hv] at h;refine q00 (c:=q5p) rfl rfl ?_;simp only [evA,schC] at h ⊢;have c1:¬ i<0:=by omega
 have c2:¬ (s.types.length:Int)<=i:=by omega
 simp [q5p,-y0,-y5,-y4,y3,h,c1,c2]
theorem mcheck_ev (w r:Sch) (hw:w.fine) (hr:r.fine) (vw:valid w.types=0) (vr:valid r.types=0) {i k:Int} (hi:0<=i/\i<w.types.length) (hk:0<=k/\k<r.types.length) {v:Vl} (hok:v.ok) (h64:v.i64) (hp:q5T w.types i v=true) :
  evA 194 [.agg (schC w),.int .i64 i,.agg (valC v),.agg (schC r),.int .i64 k] (.int .i64 0):=by
 have h1:=mexists_ev w hw vw hi.1 hi.2;have h2:=mexists_ev r hr vr hk.1 hk.2;have h3:=plain_v w.nl w.types (q8b hw vw) i v hok h64;rw [hp] at h3;refine q00 (c:=q46) rfl rfl ?_;simp only [evA,schC,schA,q03] at h1 h2 h3 ⊢;simp [q46,-y0,-y5,-y4,y3,h1,h2,h3]
theorem r14Error_ev (w r:Sch) (hw:w.fine) (hr:r.fine) (vw:valid w.types=0) (vr:valid r.types=0) {i k:Int} (hi:0<=i/\i<w.types.length) (hk:0<=k/\k<r.types.length) {v:Vl} (hok:v.ok) (h64:v.i64) (hp:q5T w.types i v=true) :
  evA 74 [.agg (schC w),.int .i64 i,.agg (valC v),.agg (schC r),.int .i64 k] (.int .i64 0):=by
 have h1:=r10_ev w hw vw hi.1 hi.2;have h2:=r10_ev r hr vr hk.1 hk.2;have h3:=rplain_v w.nl w.types (q8b hw vw) i v hok h64;rw [hp] at h3;refine q00 (c:=q5q) rfl rfl ?_;simp only [evA,schC,schA,q03] at h1 h2 h3 ⊢;simp [q5q,-y0,-y5,-y4,y3,h1,h2,h3]
theorem vequal_ev:∀ (n:Nat) (v w:Vl),SizeOf.sizeOf v<n->v.ok->evA 156 [.agg (valC v),.agg (valC w)] (.bool (v.same w)):=by
 intro n
 induction n with
 | zero=>intro v w h; omega
 | succ n ih =>
  intro v w hn hv;rw [Vl.ok_def] at hv;obtain ⟨o1,o2,o3,o4,o5,o6⟩:=hv;have hr:=raws_ev v.rest w.rest o3 v.rn w.rn;have hks:=eqf_ev 156 v.keys w.keys o1 (fun x hx y _=>ih x y (by have:=Vl.keys_lt v x hx; omega) (o5 x hx)) v.kn w.kn;have hxs:=eqf_ev 156 v.items w.items o2 (fun x hx y _=>ih x y (by have:=Vl.items_lt v x hx; omega) (o6 x hx)) v.xn w.xn;simp only [evA] at hr hks hxs;refine q00 (c:=q1q) rfl rfl ?_;rw [q03,q03,Vl.same_def];by_cases h1:v.kind=w.kind
  ·by_cases h2:v.b=w.b
   ·by_cases h3:v.i=w.i
    ·by_cases h4:v.s=w.s
     ·by_cases h5:v.id=w.id
      ·by_cases h6:v.rest=w.rest
       ·cases h7:Vl.sames v.keys w.keys with
        | true=>rw [h7] at hks; simp [q1q,-y0,-y5,-y4,y3,h1,h2,h3,h4,h5,h6 ▸ hr,h6,q4V,q2v,hks,hxs,h7]
        | false=>rw [h7] at hks; simp [q1q,-y0,-y5,-y4,y3,h1,h2,h3,h4,h5,h6 ▸ hr,h6,q4V,q2v,hks,h7]
       ·simp [q1q,-y0,-y5,-y4,y3,h1,h2,h3,h4,h5,hr,h6]
      ·simp [q1q,-y0,-y5,-y4,y3,h1,h2,h3,h4,h5]
     ·simp [q1q,-y0,-y5,-y4,y3,h1,h2,h3,h4]
    ·simp [q1q,-y0,-y5,-y4,y3,h1,h2,h3]
   ·simp [q1q,-y0,-y5,-y4,y3,h1,h2]
  ·simp [q1q,-y0,-y5,-y4,y3,h1]
theorem rvequal_ev (v w:Vl) (hv:v.ok):evA 191 [.agg (valC v),.agg (valC w)] (.bool (v.same w)):=by
 have h:=rsame_ev _ v w (Nat.lt_succ_self _) hv;refine q00 (c:=q5m) rfl rfl ?_;simp only [evA,q03] at h ⊢;simp [q5m,-y0,-y5,-y4,y3,h]
theorem reading_ev (w r:Sch) (hw:w.fine) (hr:r.fine) (vw:valid w.types=0) (vr:valid r.types=0) {x y:Typ} {i k:Int} (hi:0<=i) (gx:w.types[i.toNat]?=some x) (hk:0<=k) (gy:r.types[k.toNat]?=some y) (h56:x.kind≠5/\x.kind≠6) (vk:Int) (vb:Bool) (vi:Int) (vs:ByteArray) (vd:Int)
  (hok:(Vl.of vk vb vi vs vd).ok) (h64:(Vl.of vk vb vi vs vd).i64) (hp:q5T w.types i (.of vk vb vi vs vd)=true) (hys:y.syms.length<=8796093022206) (hmax:y.kind=7\/y.kind=8->0<=y.max) :
  evA 155 [.agg (schC w),.int .i64 i,.agg (valC (.of vk vb vi vs vd)),.agg (schC r),.int .i64 k] (.tup [.agg (valC (rdV (rdOk x y (.of vk vb vi vs vd)) (.of vk vb vi vs vd))),.int .i64 (if rdOk x y (.of vk vb vi vs vd)=true then 0 else 12)]):=by
 have li:=(ye.1 gx).1;have lk:=(ye.1 gy).1;have h1:=mcheck_ev w r hw hr vw vr ⟨hi,by omega⟩ ⟨hk,by omega⟩ hok h64 hp;have h2:=pread_ev w r hi gx hk gy hys hmax h56 vk vb vi vs vd;refine q00 (c:=q2z) rfl rfl ?_;simp only [evA,schC,q0o,pairC] at h1 h2 ⊢;cases hb:rdOk x y (.of vk vb vi vs vd) with
 | true =>
  rw [hb] at h2;simp only [rdV,if_true,q0o] at h2;simp [q2z,-y0,-y5,-y4,y3,q1s,q3j,q2n,q5w,q1y,finR,q6B,h1,h2,rdV,q0o]
 | false =>
  rw [hb] at h2;simp [rdV,q0o] at h2;simp [q2z,-y0,-y5,-y4,y3,q1s,q3j,q2n,q5w,q1y,finR,q6B,h1,h2,rdV,q0o]
theorem rreading_ev (w r:Sch) (hw:w.fine) (hr:r.fine) (vw:valid w.types=0) (vr:valid r.types=0) {x y:Typ} {i k:Int} (hi:0<=i) (gx:w.types[i.toNat]?=some x) (hk:0<=k) (gy:r.types[k.toNat]?=some y) (h56:x.kind≠5/\x.kind≠6) (vk:Int) (vb:Bool) (vi:Int) (vs:ByteArray) (vd:Int)
  (hok:(Vl.of vk vb vi vs vd).ok) (h64:(Vl.of vk vb vi vs vd).i64) (hp:q5T w.types i (.of vk vb vi vs vd)=true) (hys:y.syms.length<=8796093022206) (hmax:y.kind=7\/y.kind=8->0<=y.max) :
  evA 23 [.agg (schC w),.int .i64 i,.agg (valC (.of vk vb vi vs vd)),.agg (schC r),.int .i64 k] (.tup [.agg (valC (rdV (rdOk x y (.of vk vb vi vs vd)) (.of vk vb vi vs vd))),.int .i64 (if rdOk x y (.of vk vb vi vs vd)=true then 0 else 12)]):=by
 have li:=(ye.1 gx).1;have lk:=(ye.1 gy).1;have h1:=r14Error_ev w r hw hr vw vr ⟨hi,by omega⟩ ⟨hk,by omega⟩ hok h64 hp;have h2:=rread_ev w r hi gx hk gy hys hmax h56 vk vb vi vs vd;refine q00 (c:=q3d) rfl rfl ?_;simp only [evA,schC,q0o] at h1 h2 ⊢;cases hb:rdOk x y (.of vk vb vi vs vd) with
 | true =>
  rw [hb] at h2;simp [rdV,q0o] at h2;simp [q3d,-y0,-y5,-y4,y3,h1,h2,rdV,q0o]
 | false =>
  rw [hb] at h2;simp [rdV,q0o] at h2;simp [q3d,-y0,-y5,-y4,y3,h1,h2,rdV,q0o]
theorem rmeans_ev (w r:Sch) (hw:w.fine) (hr:r.fine) (vw:valid w.types=0) (vr:valid r.types=0) {x y:Typ} {i k:Int} (hi:0<=i) (gx:w.types[i.toNat]?=some x) (hk:0<=k) (gy:r.types[k.toNat]?=some y) (h56:x.kind≠5/\x.kind≠6) (vk:Int) (vb:Bool) (vi:Int) (vs:ByteArray) (vd:Int)
  (hok:(Vl.of vk vb vi vs vd).ok) (h64:(Vl.of vk vb vi vs vd).i64) (hp:q5T w.types i (.of vk vb vi vs vd)=true) (hys:y.syms.length<=8796093022206) (hmax:y.kind=7\/y.kind=8->0<=y.max) (u:Vl) :
  evA 157 [.agg (schC w),.int .i64 i,.agg (valC (.of vk vb vi vs vd)),.agg (schC r),.int .i64 k,.agg (valC u)] (.bool (rdOk x y (.of vk vb vi vs vd)&&(Vl.of vk vb vi vs vd).same u)):=by
 have h1:=rreading_ev w r hw hr vw vr hi gx hk gy h56 vk vb vi vs vd hok h64 hp hys hmax;have h2:=rvequal_ev (.of vk vb vi vs vd) u hok;refine q00 (c:=q4f) rfl rfl ?_;cases hb:rdOk x y (.of vk vb vi vs vd) with
 | true =>
  rw [hb] at h1;simp only [evA,schC,q0o,rdV,if_true] at h1 h2 ⊢;rw [q03 u] at h2 ⊢;simp [q4f,-y0,-y5,-y4,y3,h1,h2]
 | false =>
  rw [hb] at h1;simp [rdV,q0o,schC] at h1 ⊢;rw [q03 u];simp [q4f,-y0,-y5,-y4,y3,h1]
def tyAt (S:List Typ) (z:Int):Typ:=(S[z.toNat]?).getD q1M
theorem q7d {S:List Typ} {z:Int} (h0:0<=z) (h1:z<S.length):S[z.toNat]?=some (tyAt S z):=by
 unfold tyAt;rw [y7 (show z.toNat<S.length by omega)];rfl
theorem q9s {S:List Typ} {z:Int} (h0:0<=z) (h1:z<S.length):tyAt S z∈S:=yo (q7d h0 h1)
theorem dflts_all {S:List Typ}:∀ n i,q2b S n i=none->∀ j t,i<=j->j<i + n->S[j]?=some t->q6l S t=none
 | 0,i,_,j,t,h1,h2,_=>by omega
 | n + 1,i,h,j,t,h1,h2,ht=>by
  rw [q2b] at h;cases hi:S[i]? with
  | none =>
   have e1:=List.getElem?_eq_none_iff.1 hi;have e2:=(ye.1 ht).1;omega
  | some u =>
   rw [hi] at h;simp only at h;cases hd:q6l S u with
   | some d=>rw [hd] at h; cases h
   | none =>
    rw [hd] at h;by_cases e:i=j
    ·subst e;rw [hi] at ht;injection ht with ht;rw [<- ht];exact hd
    ·exact dflts_all n (i + 1) h j t (by omega) (by omega) ht
theorem err_dflt {S:List Typ} (h:q2W S=0) {x:Typ} (hx:x∈S) {m:Mem} (hm:m∈x.mems) (hh:m.has=true):q5T S m.ty m.dflt=true:=by
 have hv:=q6A h;unfold q2W at h;rw [if_pos hv] at h;cases hd:q2b S S.length 0 with
 | some p=>rw [hd] at h; cases h
 | none =>
  obtain ⟨j,hj,rfl⟩:=yC hx;have:=dflts_all _ _ hd j _ (Nat.zero_le j) (by omega) (y7 hj);unfold q6l at this;rw [Option.map_eq_none_iff,List.find?_eq_none] at this;have hb:=this m hm;unfold badM at hb;rw [hh] at hb;simpa using hb
structure DrF (S:List Typ):Prop where
 fine:(⟨false,S⟩:Sch).fine
 d64:(⟨false,S⟩:Sch).d64
 err:q2W S=0
 sm:∀ x∈S,x.sm
 hol:∀ x∈S,∀ m∈x.mems,∃ k b i s d,m.dflt=.of k b i s d
 k56:∀ x∈S,∀ m∈x.mems,m.has=true->∀ y,S[m.ty.toNat]?=some y->y.kind≠5/\y.kind≠6
theorem draft_F {l:List Nde} (hl:oks l):DrF (q0d l):=by
 obtain ⟨hf,h6⟩:=rwS_ok hl (q7b l);have hx:∀ x∈q0d l,∃ j,j<l.length/\x=typZ l (j:Int):=fun x hx=>by
  obtain ⟨j,hj,rfl⟩:=yC hx;exact ⟨j,by simpa [q0d] using hj,by simp [q0d]⟩
 refine ⟨hf,h6,rwS_err hl (q7b l),fun x hm=>?_,fun x hm m hmm=>?_,fun x hm=>?_⟩
 ·obtain ⟨j,hj,rfl⟩:=hx x hm;intro hk;have hok:=q3w hl hj;obtain ⟨xk,xa,xb,xc,_⟩:=hx0 _ hok;unfold typZ at hk ⊢;generalize ndAt l (j:Int)=x at *
  simp only at hk ⊢;split at hk
  all_goals first | (simp [Typ.of] at hk; done) | skip
  ·simp only [Typ.of,Nde.low,Nde.high];omega
  all_goals split at hk <;> simp [Typ.of] at hk
 ·obtain ⟨j,hj,rfl⟩:=hx x hm;obtain ⟨rc,id,p,_,_,rfl⟩:=typZ_mem hl hj hmm;simp only [memZ];split
  ·unfold q7k;split
   ·exact ⟨_,_,_,_,_,rfl⟩
   ·exact ⟨_,_,_,_,_,rfl⟩
  ·exact ⟨0,false,0,⟨#[]⟩,0,rfl⟩
 ·obtain ⟨j,hj,he⟩:=yC hm;rw [<- he];exact dflt_kind hl (q7b l) j hj
theorem DrF.val {S:List Typ} (h:DrF S):valid S=0:=q6A h.err
theorem DrF.gd {S:List Typ} (h:DrF S) {x:Typ} (hx:x∈S):TyGd S x:=by
 have hf:=(h.fine.2 x hx).2;refine ⟨hf.1,hf.2,fun hk=>?_⟩;obtain ⟨j,hj,rfl⟩:=yC hx;have hW:=q20 h.val _ (y8 hj);have hkey:=hW.key hk;have herr:=q3F h.val j hj;have hg:=(q4O herr).1;refine ⟨hkey.1,good_max hg hk,tyAt S S[j].key,q7d hkey.1 hkey.2,?_⟩;have hka:q5N S S[j].key=(tyAt S S[j].key).kind:=by unfold q5N; rw [q7d hkey.1 hkey.2]
 have h14:1<=q5N S S[j].key/\q5N S S[j].key<=4:=by
  unfold q1X at herr;by_cases c:S[j].kind=8/\¬ (1<=q5N S S[j].key/\q5N S S[j].key<=4)
  ·rw [if_pos c] at herr;split at herr
   ·cases herr
   ·split at herr
    ·cases herr
    ·split at herr <;> cases herr
  ·exact Decidable.byContradiction fun h=>c ⟨hk,h⟩
 rw [hka] at h14;exact ⟨h14.1,h14.2,h.sm _ (q9s hkey.1 hkey.2)⟩
theorem good_max0 {x:Typ} (h:q0Q x=true) (hk:x.kind=7\/x.kind=8):0<=x.max:=by
 unfold q0Q q6O at h;rcases hk with hk | hk <;> simp [hk] at h <;> omega
def mnsP (W R:List Typ) (f g:Mem):Bool:=rdOk (tyAt W f.ty) (tyAt R g.ty) f.dflt&&f.dflt.same g.dflt
theorem means2 {W R:List Typ} (hw:DrF W) (hr:DrF R) {x y:Typ} (hx:x∈W) (hy:y∈R):Means2 ⟨false,W⟩ ⟨false,R⟩ (mnsP W R) x.mems y.mems:=by
 intro f hf g hg hfh hgh;have wx:=(q20 hw.val x hx).mems f hf;have wy:=(q20 hr.val y hy).mems g hg;have gx:=q7d wx.1 wx.2;have gy:=q7d wy.1 wy.2;have h56:=hw.k56 x hx f hf hfh _ gx;have hp:=err_dflt hw.err hx hf hfh;have hok:=((hw.fine.2 x hx).1.2.2 f hf).1;have h64:=hw.d64 x hx f hf;have hys:=(hr.fine.2 _ (q9s wy.1 wy.2)).2.1;have hmax:(tyAt R g.ty).kind=7\/(tyAt R g.ty).kind=8->0<=(tyAt R g.ty).max:=fun hk=>by
  obtain ⟨j,hj,he⟩:=yC (q9s wy.1 wy.2);rw [<- he] at hk ⊢;exact good_max0 (q4O (q3F hr.val j hj)).1 hk
 obtain ⟨vk,vb,vi,vs,vd,hd⟩:=hw.hol x hx f hf;unfold mnsP;rw [hd] at hp hok h64 ⊢;have h1:=reading_ev ⟨false,W⟩ ⟨false,R⟩ hw.fine hr.fine hw.val hr.val wx.1 gx wy.1 gy h56 vk vb vi vs vd hok h64 hp hys hmax;have h2:=rmeans_ev ⟨false,W⟩ ⟨false,R⟩ hw.fine hr.fine hw.val hr.val wx.1 gx wy.1 gy h56 vk vb vi vs vd hok h64 hp hys hmax g.dflt;refine ⟨⟨_,_,h1,?_,?_⟩,h2⟩
 ·intro he;cases hb:rdOk (tyAt W f.ty) (tyAt R g.ty) (.of vk vb vi vs vd) with
  | false=>rw [hb] at he; simp at he
  | true=>exact vequal_ev _ _ _ (Nat.lt_succ_self _) hok
 ·intro he;cases hb:rdOk (tyAt W f.ty) (tyAt R g.ty) (.of vk vb vi vs vd) with
  | true=>rw [hb] at he; simp at he
  | false=>rfl
def nxP (W R:List Typ) (p:Pr):List Pr:=q9H (tyAt W p.1) (tyAt R p.2)
noncomputable def rsP (W R:List Typ) (p:Pr):Int:=rsnP (mnsP W R) W (tyAt W p.1) (tyAt R p.2)
theorem DrF.few {S:List Typ} (h:DrF S) {x:Typ} (hx:x∈S):x.mems.length<=16:=(q20 h.val x hx).few
theorem simF {W R:List Typ} (hw:DrF W) (hr:DrF R):SimF ⟨false,W⟩ ⟨false,R⟩ (nxP W R) (rsP W R):=by
 have all:∀ p,inP W.length R.length p->W[p.1.toNat]?=some (tyAt W p.1)/\R[p.2.toNat]?=some (tyAt R p.2)/\tyAt W p.1∈W/\tyAt R p.2∈R:=fun p ⟨h1,h2,h3,h4⟩=>⟨q7d h1 h2,q7d h3 h4,q9s h1 h2,q9s h3 h4⟩
 refine ⟨fun p hp=>?_,fun p hp=>?_,fun p hp=>?_,fun p hp=>?_,fun p hp q hq=>?_,fun p hp=>?_,q51 hw.val,q51 hr.val⟩
 ·obtain ⟨g1,g2,m1,m2⟩:=all p hp;exact successors_ev ⟨false,W⟩ ⟨false,R⟩ hp.1 g1 hp.2.2.1 g2 (by have:=hw.few m1; omega) (by have:=hr.few m2; omega)
 ·obtain ⟨g1,g2,m1,m2⟩:=all p hp;exact next_ev ⟨false,W⟩ ⟨false,R⟩ hp.1 g1 hp.2.2.1 g2 (by have:=hw.few m1; omega) (by have:=hr.few m2; omega)
 ·obtain ⟨g1,g2,m1,m2⟩:=all p hp;exact reason_ev ⟨false,W⟩ ⟨false,R⟩ hp.1 g1 hp.2.2.1 g2 (hw.gd m1) (hr.gd m2) (means2 hw hr m1 m2)
 ·obtain ⟨g1,g2,m1,m2⟩:=all p hp;exact rreason_ev ⟨false,W⟩ ⟨false,R⟩ hp.1 g1 hp.2.2.1 g2 (hw.gd m1) (hr.gd m2) (means2 hw hr m1 m2)
 ·obtain ⟨g1,g2,m1,m2⟩:=all p hp;have wx:=q20 hw.val _ m1;have wy:=q20 hr.val _ m2;simp only [nxP,q9H] at hq;split at hq
  case isFalse=>cases hq
  rename_i hk;rw [addsP_mem] at hq;rcases hq with hq | hq
  ·cases hq
  rw [yA,yA] at hq;rcases hq with (hq | hq) | hq
  ·unfold comL at hq;rw [List.mem_flatMap] at hq;obtain ⟨f,hf,hq⟩:=hq;unfold comM at hq;split at hq
   ·split at hq
    ·rename_i g hg;simp at hq;subst hq;have a:=wx.mems f hf;have b:=wy.mems g (yo hg);exact ⟨a.1,a.2,b.1,b.2⟩
    ·cases hq
   ·cases hq
  ·unfold keyL at hq;split at hq
   ·rename_i h8;simp at hq;subst hq;have a:=wx.key h8.1;have b:=wy.key (by rw [<- hk]; exact h8.1);exact ⟨a.1,a.2,b.1,b.2⟩
   ·cases hq
  ·unfold elemL at hq;split at hq
   ·rename_i h8;simp at hq;subst hq;have a:=wx.elem (by omega);have b:=wy.elem (by rw [<- hk]; omega);exact ⟨a.1,a.2,b.1,b.2⟩
   ·cases hq
 ·obtain ⟨_,_,m1,_⟩:=all p hp;have h1:=hw.few m1;unfold nxP q9H;split
  ·have h2:=qaZ (comL (tyAt W p.1).mems (tyAt R p.2).mems++keyL (tyAt W p.1) (tyAt R p.2)++elemL (tyAt W p.1) (tyAt R p.2)) [];have h3:=q93 (tyAt R p.2).mems (tyAt W p.1).mems;have h4:(keyL (tyAt W p.1) (tyAt R p.2)).length<=1:=by unfold keyL; split <;> simp
   have h5:(elemL (tyAt W p.1) (tyAt R p.2)).length<=1:=by unfold elemL; split <;> simp
   simp only [yu,List.length_nil] at h2;omega
  ·simp
def caseC (dn:Bool) (l:List Nde) (cn:Bool) (cs:List Chg) (T U:Int):List AV:=[.sl dn (l.map ndeC),.sl cn (cs.map chgC),.int .u8 T,.int .u8 U]
structure CaseOk (l:List Nde) (cs:List Chg) (T U:Int):Prop where
 nds:∀ x∈l,x.ok/\x.sized
 sz:l.length * 32<=140737488355328
 chs:∀ c∈cs,c.ok
 cl:cs.length<=9223372036854775807
 t:u8 T
 u:u8 U
def badRes:AV:=.tup [.agg [.sl true [],.int .i64 0],.agg [.sl true [],.int .i64 0],.bool false]
theorem of20_ev {dn cn:Bool} {l:List Nde} {cs:List Chg} {T U:Int} (h:CaseOk l cs T U):∃ r:RV,(r=(badRes,none)\/∃ l1 l2 t u,oks l1/\oks l2/\inP (q0d l1).length (q0d l2).length (t,u)/\r=(.tup [.agg (q8g ⟨false,q0d l1⟩ t),.agg (q8g ⟨false,q0d l2⟩ u),.bool true],none))/\evC allT q01 18 [.agg (caseC dn l cn cs T U)] none=some r:=by
 obtain ⟨r1,⟨l2,hl2,rfl⟩,hch⟩:=changed_ev (dn:=dn) (cn:=cn) h.nds h.sz h.chs h.cl;have ho1:=of07_ev (dn:=dn) (l:=l) fun x hx=>(h.nds x hx).1
 have ho2:=of07_ev (dn:=false) (l:=l2) hl2;obtain ⟨t0,t1⟩:=h.t;obtain ⟨u0,u1⟩:=h.u;have hwT:IntKind.i64.wrap T=T:=IntWalk.i64_in _ (by omega);have hwU:IntKind.i64.wrap U=U:=IntWalk.i64_in _ (by omega);simp only [evA,dftC] at ho1 ho2 hch;rcases ho1 with ⟨hok1,ho1⟩ | ⟨_,ho1⟩
 ·rcases ho2 with ⟨hok2,ho2⟩ | ⟨_,ho2⟩
  ·by_cases h5:5<(cs.length:Int)
   ·refine ⟨_,.inl rfl,?_⟩;refine q00 (c:=q2B) rfl rfl ?_;simp [q2B,caseC,badRes,-y0,-y5,-y4,y3,ho1,hch,ho2,h5]
   ·have hS1:(q0d l).length=l.length:=by simp [q0d]
    have hS2:(q0d l2).length=l2.length:=by simp [q0d]
    have p1:=hok1.1;have p2:=hok2.1;have p15:=hok1.2.1;have p25:=hok2.2.1;have a0:=yI T (b:=((q0d l).length:Int)) (by omega);have a1:=yN T (b:=((q0d l).length:Int)) (by omega);have am:T.tmod (q0d l).length=T % (q0d l).length:=yw t0;generalize T % ((q0d l).length:Int)=t at *
    have hwA:IntKind.i64.wrap (t + U)=t + U:=IntWalk.i64_in _ (by omega);have b0:=yI (t + U) (b:=((q0d l2).length:Int)) (by omega);have b1:=yN (t + U) (b:=((q0d l2).length:Int)) (by omega);have bm:(t + U).tmod (q0d l2).length=(t + U) % (q0d l2).length:=yw (by omega);have n1:¬ (q0d l)=[]:=fun e=>by rw [e] at hS1; simp at hS1; omega
    have n2:¬ (q0d l2)=[]:=fun e=>by rw [e] at hS2; simp at hS2; omega
    have n1':¬ (q0d l).length=0:=by omega
    have n2':¬ (q0d l2).length=0:=by omega
    generalize hu:(t + U) % ((q0d l2).length:Int)=u at *
    refine ⟨_,.inr ⟨l,l2,t,u,hok1,hok2,⟨a0,a1,b0,b1⟩,rfl⟩,?_⟩;refine q00 (c:=q2B) rfl rfl ?_;simp only [q8g];generalize q0d l=S1 at *
    generalize q0d l2=S2 at *
    simp [q2B,caseC,-y0,-y5,-y4,y3,ho1,hch,ho2,h5,hwT,hwU,am,bm,hwA,n1,n2,n1',n2']
  ·refine ⟨_,.inl rfl,?_⟩;refine q00 (c:=q2B) rfl rfl ?_;simp [q2B,caseC,badRes,-y0,-y5,-y4,y3,ho1,hch,ho2]
 ·refine ⟨_,.inl rfl,?_⟩;refine q00 (c:=q2B) rfl rfl ?_;rcases ho2 with ⟨_,ho2⟩ | ⟨_,ho2⟩
  ·simp [q2B,caseC,badRes,-y0,-y5,-y4,y3,ho1,hch,ho2]
  ·simp [q2B,caseC,badRes,-y0,-y5,-y4,y3,ho1,hch,ho2]
section
open Go Go.RowKit Go.ChangeShapes Go.WideShapes
theorem mixed:Tryz.prog.follows .mixedOrders=true:=by kernel_rfl
theorem u8_of {n:Int} (h:(Lit.int .u8 n).wf=true):u8 n:=by
 simp only [Lit.wf,yb,decide_eq_true_eq] at h;have h1:IntKind.u8.min=0:=rfl;have h2:IntKind.u8.max=255:=rfl;exact ⟨by omega,by omega⟩
def caseTs:List TypeId:=[27,24,22,127,125,165,25,162,5,3]
theorem caseTs_good:caseTs.all (qag Tryz.prog caseTs)=true:=by kernel_rfl
theorem qat {H:Type} {P:Program} {m:Nat}:∀ {ts us:List TypeId} {ds gs:List (DataW H)},m∈DataW.weightsEach P ts ds->ts.length=ds.length->m∈DataW.weightsEach P (ts++us) (ds++gs)
 | [],_,[],_,h,_=>by simp [DataW.weightsEach] at h
 | [],_,_ :: _,_,_,h=>by simp at h
 | _ :: _,_,[],_,_,h=>by simp at h
 | t :: ts,us,d :: ds,gs,h,hl=>by
  simp only [DataW.weightsEach,yA,List.cons_append] at h ⊢;rcases h with h | h
  ·exact .inl h
  ·exact .inr (qat h (by simpa using hl))
theorem list_T {α:Type} {P:List AV->Prop} {f:α->List AV} {p:α->Prop} (h:∀ x,P x->∃ o,x=f o/\p o):∀ els:List (List AV),(∀ x∈els,P x)->∃ L:List α,els=L.map f/\∀ o∈L,p o
 | [],_=>⟨[],rfl,fun _ h=>by cases h⟩
 | x :: r,hx=>by
  obtain ⟨L,h1,h2⟩:=list_T h r fun y hy=>hx y (yp _ hy)
  obtain ⟨o,h3,h4⟩:=h x (hx x yl);refine ⟨o :: L,by rw [h1,h3]; rfl,fun y hy=>?_⟩;rcases yj.1 hy with rfl | hy
  ·exact h4
  ·exact h2 y hy
theorem bytesNode:Tryz.prog.bytesOf 127=32:=by kernel_rfl
theorem bytesPart:Tryz.prog.bytesOf 165=3:=by kernel_rfl
theorem reachB:reachBytes=140737488351232:=rfl
theorem tyU {n:Nat} {a:List AV} (h:TyT Tryz.prog n 5 a):∃ x,a=[.int .u8 x]/\u8 x:=by
 cases n with
 | zero=>exact h.elim
 | succ n =>
  simp only [TyT,Tryz.underlying5] at h;obtain ⟨x,rfl,hx⟩:=h;exact ⟨x,rfl,u8_of hx⟩
theorem tyI {n:Nat} {a:List AV} (h:TyT Tryz.prog n 3 a):∃ x,a=[.int .i64 x]:=by
 cases n with
 | zero=>exact h.elim
 | succ n =>
  simp only [TyT,Tryz.underlying3] at h;obtain ⟨x,rfl,hx⟩:=h;exact ⟨x,rfl⟩
theorem tyPart {n:Nat} {a:List AV} (h:TyT Tryz.prog n 165 a):∃ p:Prt,a=prtC p/\p.ok:=by
 cases n with
 | zero=>exact h.elim
 | succ n =>
  simp only [TyT,Tryz.underlying165,qa4] at h;obtain ⟨_,_,rfl,_,h1,_,_,rfl,_,h2,_,_,rfl,_,h3,rfl⟩:=h;obtain ⟨x1,rfl,u1⟩:=tyU h1;obtain ⟨x2,rfl,u2⟩:=tyU h2;obtain ⟨x3,rfl,u3⟩:=tyU h3;exact ⟨⟨x1,x2,x3⟩,rfl,u1,u2,u3⟩
theorem tyChg {n:Nat} {a:List AV} (h:TyT Tryz.prog n 162 a):∃ c:Chg,a=chgC c/\c.ok:=by
 cases n with
 | zero=>exact h.elim
 | succ n =>
  simp only [TyT,Tryz.underlying162,qa4] at h;obtain ⟨_,_,rfl,_,h1,_,_,rfl,_,h2,_,_,rfl,_,h3,_,_,rfl,_,h4,rfl⟩:=h;obtain ⟨x1,rfl,u1⟩:=tyU h1;obtain ⟨x2,rfl,u2⟩:=tyU h2;obtain ⟨x3,rfl,u3⟩:=tyU h3;obtain ⟨x4,rfl,u4⟩:=tyU h4;exact ⟨⟨x1,x2,x3,x4⟩,rfl,u1,u2,u3,u4⟩
theorem tyParts {n:Nat} {a:List AV} (h:TyT Tryz.prog n 125 a):∃ nl,∃ ps:List Prt,a=[.sl nl (ps.map prtC)]/\(∀ p∈ps,p.ok)/\ps.length * 3<=140737488351232:=by
 cases n with
 | zero=>exact h.elim
 | succ n =>
  simp only [TyT,Tryz.underlying125,bytesPart,reachB] at h;obtain ⟨nl,els,rfl,_,h2,_,h4⟩:=h;obtain ⟨L,rfl,hL⟩:=list_T (P:=fun x=>TyT Tryz.prog n 165 x) (fun x hx=>tyPart hx) els (fun x hx=>(h4 x hx).2);exact ⟨nl,L,rfl,hL,by simpa using h2⟩
theorem tyChgs {n:Nat} {a:List AV} (h:TyT Tryz.prog n 25 a):∃ nl,∃ ps:List Chg,a=[.sl nl (ps.map chgC)]/\(∀ p∈ps,p.ok)/\ps.length<=9223372036854775807:=by
 cases n with
 | zero=>exact h.elim
 | succ n =>
  simp only [TyT,Tryz.underlying25] at h;obtain ⟨nl,els,rfl,h1,_,_,h4⟩:=h;obtain ⟨L,rfl,hL⟩:=list_T (P:=fun x=>TyT Tryz.prog n 162 x) (fun x hx=>tyChg hx) els (fun x hx=>(h4 x hx).2);exact ⟨nl,L,rfl,hL,by simpa [maxLen] using h1⟩
theorem tyNode {n:Nat} {a:List AV} (h:TyT Tryz.prog n 127 a):∃ x:Nde,a=ndeC x/\x.ok/\x.sized:=by
 cases n with
 | zero=>exact h.elim
 | succ n =>
  simp only [TyT,Tryz.underlying127,qa4] at h;obtain ⟨_,_,rfl,_,h1,_,_,rfl,_,h2,_,_,rfl,_,h3,_,_,rfl,_,h4,_,_,rfl,_,h5,rfl⟩:=h;obtain ⟨x1,rfl,u1⟩:=tyU h1;obtain ⟨x2,rfl,u2⟩:=tyU h2;obtain ⟨x3,rfl,u3⟩:=tyU h3;obtain ⟨x4,rfl,u4⟩:=tyU h4;obtain ⟨nl,ps,rfl,p1,p2⟩:=tyParts h5;exact ⟨⟨x1,x2,x3,x4,nl,ps⟩,rfl,⟨u1,u2,u3,u4,by dsimp only; omega,p1⟩,by unfold Nde.sized; dsimp only; omega⟩
theorem tyDraft {n:Nat} {a:List AV} (h:TyT Tryz.prog n 24 a):∃ nl,∃ l:List Nde,a=[.sl nl (l.map ndeC)]/\(∀ x∈l,x.ok/\x.sized)/\l.length * 32<=140737488351232:=by
 cases n with
 | zero=>exact h.elim
 | succ n =>
  simp only [TyT,Tryz.underlying24,qa4] at h;obtain ⟨_,_,rfl,_,h1,rfl⟩:=h;cases n with
  | zero=>exact h1.elim
  | succ n =>
   simp only [TyT,Tryz.underlying22,bytesNode,reachB] at h1;obtain ⟨nl,els,rfl,_,h2,_,h4⟩:=h1;obtain ⟨L,rfl,hL⟩:=list_T (P:=fun x=>TyT Tryz.prog n 127 x) (fun x hx=>tyNode hx) els (fun x hx=>(h4 x hx).2);exact ⟨nl,L,rfl,hL,by simpa using h2⟩
theorem caseTy {a:AV} (h:ParT Tryz.prog 27 a):∃ dn,∃ l:List Nde,∃ cn,∃ cs:List Chg,∃ T U:Int,a=.agg (caseC dn l cn cs T U)/\CaseOk l cs T U:=by
 obtain ⟨n,⟨_,c,rfl,h⟩ | ⟨hw,_⟩⟩:=h
 ·cases n with
  | zero=>exact h.elim
  | succ n =>
   simp only [TyT,Tryz.underlying27,qa4] at h;obtain ⟨_,_,rfl,_,h1,_,_,rfl,_,h2,_,_,rfl,_,h3,_,_,rfl,_,h4,rfl⟩:=h;obtain ⟨dn,l,rfl,l1,l2⟩:=tyDraft h1;obtain ⟨cn,cs,rfl,c1,c2⟩:=tyChgs h2;obtain ⟨T,rfl,u3⟩:=tyU h3;obtain ⟨U,rfl,u4⟩:=tyU h4;exact ⟨dn,l,cn,cs,T,U,rfl,l1,by omega,c1,c2,u3,u4⟩
 ·have hw':q7W Tryz.prog 27=true:=by kernel_rfl
  rw [hw'] at hw;cases hw
theorem intTy {a:AV} (h:ParT Tryz.prog 3 a):∃ x,a=.int .i64 x:=by
 obtain ⟨n,⟨hw,_⟩ | ⟨_,h⟩⟩:=h
 ·have hw':q7W Tryz.prog 3=false:=by kernel_rfl
  rw [hw'] at hw;cases hw
 ·obtain ⟨x,e⟩:=tyI h;injection e with e;exact ⟨x,e⟩
end



theorem slocal_ev {w r:Sch} {e f i k:Int} (hw:SndE w e) (hr:SndE r f) {nx:Pr->List Pr} {rs:Pr->Int} (hF:botE e f w.types.length r.types.length i k=0->SimF w r nx rs):evA 24 [.agg (schC w),.int .i64 i,.agg (schC r),.int .i64 k] (.tup [.int .i64 (if botE e f w.types.length r.types.length i k=0 then rs (i,k) else 0),.int .i64 (botE e f w.types.length r.types.length i k)]):=by
 have h1:=both_ev hw hr i k;refine q00 (c:=q2U) rfl rfl ?_;simp only [evA,q8g] at h1;by_cases c:botE e f w.types.length r.types.length i k=0
 ·have h2:=(hF c).rsn (i,k) (botE_in c).2.2;simp only [evA,schC] at h2;rw [c] at h1;simp [q2U,-y0,-y5,-y4,y3,schC,h1,h2,c]
 ·simp [q2U,-y0,-y5,-y4,y3,schC,h1,c]
theorem rlocal_ev {w r:Sch} {e f i k:Int} (hw:SndE w e) (hr:SndE r f) {nx:Pr->List Pr} {rs:Pr->Int} (hF:botE e f w.types.length r.types.length i k=0->SimF w r nx rs):evA 25 [.agg (schC w),.int .i64 i,.agg (schC r),.int .i64 k] (.tup [.int .i64 (if botE e f w.types.length r.types.length i k=0 then rs (i,k) else 0),.int .i64 (botE e f w.types.length r.types.length i k)]):=by
 have h1:=rerr_ev hw hr i k;refine q00 (c:=q4j) rfl rfl ?_;simp only [evA,q8g] at h1;by_cases c:botE e f w.types.length r.types.length i k=0
 ·have h2:=(hF c).rrsn (i,k) (botE_in c).2.2;simp only [evA,schC] at h2;rw [c] at h1;simp [q4j,-y0,-y5,-y4,y3,schC,h1,h2,c]
 ·simp [q4j,-y0,-y5,-y4,y3,schC,h1,c]
def sucL (c:Prop) [Decidable c] (nx:Pr->List Pr) (p:Pr):List Pr:=if c then nx p else []
theorem ssucs_ev {w r:Sch} {e f i k:Int} (hw:SndE w e) (hr:SndE r f) {nx:Pr->List Pr} {rs:Pr->Int} (hF:botE e f w.types.length r.types.length i k=0->SimF w r nx rs):evA 26 [.agg (schC w),.int .i64 i,.agg (schC r),.int .i64 k] (.tup [.sl (sucL (botE e f w.types.length r.types.length i k=0) nx (i,k)).isEmpty ((sucL (botE e f w.types.length r.types.length i k=0) nx (i,k)).map prC),.int .i64 (botE e f w.types.length r.types.length i k)]):=by
 have h1:=both_ev hw hr i k;refine q00 (c:=q1I) rfl rfl ?_;simp only [evA,q8g] at h1;unfold sucL;by_cases c:botE e f w.types.length r.types.length i k=0
 ·have h2:=(hF c).suc (i,k) (botE_in c).2.2;simp only [evA,schC] at h2;rw [c] at h1;simp [q1I,-y0,-y5,-y4,y3,schC,h1,h2,c]
 ·simp [q1I,-y0,-y5,-y4,y3,schC,h1,c]
theorem rsucs_ev {w r:Sch} {e f i k:Int} (hw:SndE w e) (hr:SndE r f) {nx:Pr->List Pr} {rs:Pr->Int} (hF:botE e f w.types.length r.types.length i k=0->SimF w r nx rs):evA 27 [.agg (schC w),.int .i64 i,.agg (schC r),.int .i64 k] (.tup [.sl (sucL (botE e f w.types.length r.types.length i k=0) nx (i,k)).isEmpty ((sucL (botE e f w.types.length r.types.length i k=0) nx (i,k)).map prC),.int .i64 (botE e f w.types.length r.types.length i k)]):=by
 have h1:=rerr_ev hw hr i k;refine q00 (c:=q2i) rfl rfl ?_;simp only [evA,q8g] at h1;unfold sucL;by_cases c:botE e f w.types.length r.types.length i k=0
 ·have h2:=(hF c).rsuc (i,k) (botE_in c).2.2;simp only [evA,schC] at h2;rw [c] at h1;simp [q2i,-y0,-y5,-y4,y3,schC,h1,h2,c]
 ·simp [q2i,-y0,-y5,-y4,y3,schC,h1,c]
theorem pairs_same (l:List Pr) (hl:l.length<=1000000) (b c:Bool):evA 28 [.sl b (l.map prC),.sl c (l.map prC)] (.bool true):=by
 refine q00 (c:=q5r) rfl rfl ?_;simp [q5r,-y0,-y5,-y4,y3];refine q0f l.length (fun i s=>(s.env 0).v=.sl b (l.map prC)/\(s.env 1).v=.sl c (l.map prC)/\(s.env 5).v=.int .i64 i)
  (fun e s=>e=.exit 0) (fun i hi s k h ih hk=>?_) _ _ ?_ (fun e s h=>?_)
 ·obtain ⟨e0,e1,e5⟩:=h;refine q04 ?_;by_cases hlt:i<l.length
  ·have hlt':(i:Int)<l.length:=by omega
   have g1:(l.map prC)[i]?=some (prC l[i]):=by simp [hlt]
   have hw:=q11 (i:=i) (by omega);generalize l[i]=q at *
   simp only [prC] at g1;simp [q55,-y0,-y5,-y4,y3,e0,e1,e5,hlt',g1,hw];refine ih hlt _ ⟨?_,?_,?_⟩ <;> simp [e0,e1]
  ·have hlt':¬ (i:Int)<l.length:=by omega
   simp [q55,-y0,-y5,-y4,y3,e0,e5,hlt'];exact hk _ _ rfl
 ·refine ⟨?_,?_,?_⟩ <;> simp
 ·subst h;simp [-y0,-y5,-y4,y3]
abbrev i6 (n:Int):AV:=.int .i64 n
abbrev f6:AV:=.bool false
abbrev t6:AV:=.bool true
abbrev n6:AV:=.sl true []
abbrev e6:AV:=.str ⟨#[]⟩
abbrev i0:AV:=.int .i64 0
def awk_M0:List ME:=[]
theorem awk_k0:q0r allT q01 awk_M0:=q0r.nil
def awk_M1:List ME:=⟨70,[f6,f6,f6],none,((.agg [(.sl false [[(i6 5),(.str (.mk #[82])),i0,i0,i0,n6,n6,i0,i0,f6],[(i6 1),e6,i0,i0,i0,n6,n6,i0,i0,f6]]),i0]),none)⟩ :: awk_M0
theorem awk_k1:q0r allT q01 awk_M1:=awk_k0.more 3000 _ (by kernel_rfl)
def awk_M2:List ME:=⟨70,[t6,t6,f6],none,((.agg [(.sl false [[(i6 5),(.str (.mk #[82])),i0,i0,i0,n6,(.sl false [[(i6 1),(.str (.mk #[120])),(i6 1),f6,t6,(i6 1),f6,i0,e6,i0,n6,n6,n6]]),i0,i0,f6],[(i6 1),e6,i0,i0,i0,n6,n6,i0,i0,f6]]),i0]),none)⟩ :: awk_M1
theorem awk_k2:q0r allT q01 awk_M2:=awk_k1.more 3000 _ (by kernel_rfl)
def awk_M3:List ME:=⟨70,[t6,t6,t6],none,((.agg [(.sl false [[(i6 5),(.str (.mk #[82])),i0,i0,i0,n6,(.sl false [[(i6 1),(.str (.mk #[120])),(i6 1),f6,t6,(i6 1),t6,i0,e6,i0,n6,n6,n6]]),i0,i0,f6],[(i6 1),e6,i0,i0,i0,n6,n6,i0,i0,f6]]),i0]),none)⟩ :: awk_M2
theorem awk_k3:q0r allT q01 awk_M3:=awk_k2.more 3000 _ (by kernel_rfl)
def awk_M4:List ME:=⟨203,[(.agg [(.sl false [[(i6 5),(.str (.mk #[82])),i0,i0,i0,n6,n6,i0,i0,f6],[(i6 1),e6,i0,i0,i0,n6,n6,i0,i0,f6]])])],none,(i0,none)⟩ :: awk_M3
theorem awk_k4:q0r allT q01 awk_M4:=awk_k3.more 3000 _ (by kernel_rfl)
def awk_M5:List ME:=⟨204,[(.agg [(.sl false [[(i6 5),(.str (.mk #[82])),i0,i0,i0,n6,n6,i0,i0,f6],[(i6 1),e6,i0,i0,i0,n6,n6,i0,i0,f6]])])],none,((.tup [i0,i0,i0]),none)⟩ :: awk_M4
theorem awk_k5:q0r allT q01 awk_M5:=awk_k4.more 3000 _ (by kernel_rfl)
def awk_M6:List ME:=⟨173,[(.agg [(.sl false [[(i6 5),(.str (.mk #[82])),i0,i0,i0,n6,n6,i0,i0,f6],[(i6 1),e6,i0,i0,i0,n6,n6,i0,i0,f6]])])],none,(i0,none)⟩ :: awk_M5
theorem awk_k6:q0r allT q01 awk_M6:=awk_k5.more 3000 _ (by kernel_rfl)
def awk_M7:List ME:=⟨174,[(.agg [(.sl false [[(i6 5),(.str (.mk #[82])),i0,i0,i0,n6,n6,i0,i0,f6],[(i6 1),e6,i0,i0,i0,n6,n6,i0,i0,f6]])])],none,((.sl false [[(i6 1)],[(i6 2)]]),none)⟩ :: awk_M6
theorem awk_k7:q0r allT q01 awk_M7:=awk_k6.more 3000 _ (by kernel_rfl)
def awk_M8:List ME:=⟨144,[(.agg [(.sl false [[(i6 5),(.str (.mk #[82])),i0,i0,i0,n6,n6,i0,i0,f6],[(i6 1),e6,i0,i0,i0,n6,n6,i0,i0,f6]])])],none,((.tup [(.sl false [[t6],[t6]]),i0]),none)⟩ :: awk_M7
theorem awk_k8:q0r allT q01 awk_M8:=awk_k7.more 3000 _ (by kernel_rfl)
def awk_M9:List ME:=⟨95,[(.agg [(.sl false [[(i6 5),(.str (.mk #[82])),i0,i0,i0,n6,n6,i0,i0,f6],[(i6 1),e6,i0,i0,i0,n6,n6,i0,i0,f6]])])],none,(i0,none)⟩ :: awk_M8
theorem awk_k9:q0r allT q01 awk_M9:=awk_k8.more 3000 _ (by kernel_rfl)
def awk_M10:List ME:=⟨203,[(.agg [(.sl false [[(i6 5),(.str (.mk #[82])),i0,i0,i0,n6,(.sl false [[(i6 1),(.str (.mk #[120])),(i6 1),f6,t6,(i6 1),t6,i0,e6,i0,n6,n6,n6]]),i0,i0,f6],[(i6 1),e6,i0,i0,i0,n6,n6,i0,i0,f6]])])],none,(i0,none)⟩ :: awk_M9
theorem awk_k10:q0r allT q01 awk_M10:=awk_k9.more 3000 _ (by kernel_rfl)
def awk_M11:List ME:=⟨204,[(.agg [(.sl false [[(i6 5),(.str (.mk #[82])),i0,i0,i0,n6,(.sl false [[(i6 1),(.str (.mk #[120])),(i6 1),f6,t6,(i6 1),t6,i0,e6,i0,n6,n6,n6]]),i0,i0,f6],[(i6 1),e6,i0,i0,i0,n6,n6,i0,i0,f6]])])],none,((.tup [i0,i0,i0]),none)⟩ :: awk_M10
theorem awk_k11:q0r allT q01 awk_M11:=awk_k10.more 3000 _ (by kernel_rfl)
def awk_M12:List ME:=⟨173,[(.agg [(.sl false [[(i6 5),(.str (.mk #[82])),i0,i0,i0,n6,(.sl false [[(i6 1),(.str (.mk #[120])),(i6 1),f6,t6,(i6 1),t6,i0,e6,i0,n6,n6,n6]]),i0,i0,f6],[(i6 1),e6,i0,i0,i0,n6,n6,i0,i0,f6]])])],none,(i0,none)⟩ :: awk_M11
theorem awk_k12:q0r allT q01 awk_M12:=awk_k11.more 3000 _ (by kernel_rfl)
def awk_M13:List ME:=⟨174,[(.agg [(.sl false [[(i6 5),(.str (.mk #[82])),i0,i0,i0,n6,(.sl false [[(i6 1),(.str (.mk #[120])),(i6 1),f6,t6,(i6 1),t6,i0,e6,i0,n6,n6,n6]]),i0,i0,f6],[(i6 1),e6,i0,i0,i0,n6,n6,i0,i0,f6]])])],none,((.sl false [[(i6 2)],[(i6 2)]]),none)⟩ :: awk_M12
theorem awk_k13:q0r allT q01 awk_M13:=awk_k12.more 3000 _ (by kernel_rfl)
def awk_M14:List ME:=⟨144,[(.agg [(.sl false [[(i6 5),(.str (.mk #[82])),i0,i0,i0,n6,(.sl false [[(i6 1),(.str (.mk #[120])),(i6 1),f6,t6,(i6 1),t6,i0,e6,i0,n6,n6,n6]]),i0,i0,f6],[(i6 1),e6,i0,i0,i0,n6,n6,i0,i0,f6]])])],none,((.tup [(.sl false [[t6],[t6]]),i0]),none)⟩ :: awk_M13
theorem awk_k14:q0r allT q01 awk_M14:=awk_k13.more 3000 _ (by kernel_rfl)
def awk_M15:List ME:=⟨95,[(.agg [(.sl false [[(i6 5),(.str (.mk #[82])),i0,i0,i0,n6,(.sl false [[(i6 1),(.str (.mk #[120])),(i6 1),f6,t6,(i6 1),t6,i0,e6,i0,n6,n6,n6]]),i0,i0,f6],[(i6 1),e6,i0,i0,i0,n6,n6,i0,i0,f6]])])],none,(i0,none)⟩ :: awk_M14
theorem awk_k15:q0r allT q01 awk_M15:=awk_k14.more 3000 _ (by kernel_rfl)
def awk_M16:List ME:=⟨79,[(.agg [(.sl false [[(i6 5),(.str (.mk #[82])),i0,i0,i0,n6,n6,i0,i0,f6],[(i6 1),e6,i0,i0,i0,n6,n6,i0,i0,f6]])]),i0,(.agg [(.sl false [[(i6 5),(.str (.mk #[82])),i0,i0,i0,n6,(.sl false [[(i6 1),(.str (.mk #[120])),(i6 1),f6,t6,(i6 1),t6,i0,e6,i0,n6,n6,n6]]),i0,i0,f6],[(i6 1),e6,i0,i0,i0,n6,n6,i0,i0,f6]])]),i0],none,(n6,none)⟩ :: awk_M15
theorem awk_k16:q0r allT q01 awk_M16:=awk_k15.more 3000 _ (by kernel_rfl)
def awk_M17:List ME:=⟨81,[(.agg [(.sl false [[(i6 5),(.str (.mk #[82])),i0,i0,i0,n6,n6,i0,i0,f6],[(i6 1),e6,i0,i0,i0,n6,n6,i0,i0,f6]]),i0]),(.agg [(.sl false [[(i6 5),(.str (.mk #[82])),i0,i0,i0,n6,(.sl false [[(i6 1),(.str (.mk #[120])),(i6 1),f6,t6,(i6 1),t6,i0,e6,i0,n6,n6,n6]]),i0,i0,f6],[(i6 1),e6,i0,i0,i0,n6,n6,i0,i0,f6]]),i0])],none,((.tup [(.sl false [[i0,i0]]),(.sl false [[(i6 (-1))]])]),none)⟩ :: awk_M16
theorem awk_k17:q0r allT q01 awk_M17:=awk_k16.more 3000 _ (by kernel_rfl)
def awk_M18:List ME:=⟨77,[(.agg [(.sl false [[(i6 5),(.str (.mk #[82])),i0,i0,i0,n6,n6,i0,i0,f6],[(i6 1),e6,i0,i0,i0,n6,n6,i0,i0,f6]])]),i0,(.agg [(.sl false [[(i6 5),(.str (.mk #[82])),i0,i0,i0,n6,(.sl false [[(i6 1),(.str (.mk #[120])),(i6 1),f6,t6,(i6 1),t6,i0,e6,i0,n6,n6,n6]]),i0,i0,f6],[(i6 1),e6,i0,i0,i0,n6,n6,i0,i0,f6]])]),i0],none,(i0,none)⟩ :: awk_M17
theorem awk_k18:q0r allT q01 awk_M18:=awk_k17.more 3000 _ (by kernel_rfl)
def awk_M19:List ME:=⟨32,[(.agg [(.sl false [[(i6 5),(.str (.mk #[82])),i0,i0,i0,n6,n6,i0,i0,f6],[(i6 1),e6,i0,i0,i0,n6,n6,i0,i0,f6]]),i0]),(.agg [(.sl false [[(i6 5),(.str (.mk #[82])),i0,i0,i0,n6,(.sl false [[(i6 1),(.str (.mk #[120])),(i6 1),f6,t6,(i6 1),t6,i0,e6,i0,n6,n6,n6]]),i0,i0,f6],[(i6 1),e6,i0,i0,i0,n6,n6,i0,i0,f6]]),i0])],none,((.tup [n6,i0,(i6 15)]),none)⟩ :: awk_M18
theorem awk_k19:q0r allT q01 awk_M19:=awk_k18.more 3000 _ (by kernel_rfl)
def awk_M20:List ME:=⟨21,[(.agg [(.sl false [[(i6 5),(.str (.mk #[82])),i0,i0,i0,n6,n6,i0,i0,f6],[(i6 1),e6,i0,i0,i0,n6,n6,i0,i0,f6]]),i0]),(.agg [(.sl false [[(i6 5),(.str (.mk #[82])),i0,i0,i0,n6,(.sl false [[(i6 1),(.str (.mk #[120])),(i6 1),f6,t6,(i6 1),t6,i0,e6,i0,n6,n6,n6]]),i0,i0,f6],[(i6 1),e6,i0,i0,i0,n6,n6,i0,i0,f6]]),i0])],none,((.tup [t6,i0]),none)⟩ :: awk_M19
theorem awk_k20:q0r allT q01 awk_M20:=awk_k19.more 3000 _ (by kernel_rfl)
def awk_M21:List ME:=⟨79,[(.agg [(.sl false [[(i6 5),(.str (.mk #[82])),i0,i0,i0,n6,(.sl false [[(i6 1),(.str (.mk #[120])),(i6 1),f6,t6,(i6 1),t6,i0,e6,i0,n6,n6,n6]]),i0,i0,f6],[(i6 1),e6,i0,i0,i0,n6,n6,i0,i0,f6]])]),i0,(.agg [(.sl false [[(i6 5),(.str (.mk #[82])),i0,i0,i0,n6,n6,i0,i0,f6],[(i6 1),e6,i0,i0,i0,n6,n6,i0,i0,f6]])]),i0],none,(n6,none)⟩ :: awk_M20
theorem awk_k21:q0r allT q01 awk_M21:=awk_k20.more 3000 _ (by kernel_rfl)
def awk_M22:List ME:=⟨81,[(.agg [(.sl false [[(i6 5),(.str (.mk #[82])),i0,i0,i0,n6,(.sl false [[(i6 1),(.str (.mk #[120])),(i6 1),f6,t6,(i6 1),t6,i0,e6,i0,n6,n6,n6]]),i0,i0,f6],[(i6 1),e6,i0,i0,i0,n6,n6,i0,i0,f6]]),i0]),(.agg [(.sl false [[(i6 5),(.str (.mk #[82])),i0,i0,i0,n6,n6,i0,i0,f6],[(i6 1),e6,i0,i0,i0,n6,n6,i0,i0,f6]]),i0])],none,((.tup [(.sl false [[i0,i0]]),(.sl false [[(i6 (-1))]])]),none)⟩ :: awk_M21
theorem awk_k22:q0r allT q01 awk_M22:=awk_k21.more 3000 _ (by kernel_rfl)
def awk_M23:List ME:=⟨77,[(.agg [(.sl false [[(i6 5),(.str (.mk #[82])),i0,i0,i0,n6,(.sl false [[(i6 1),(.str (.mk #[120])),(i6 1),f6,t6,(i6 1),t6,i0,e6,i0,n6,n6,n6]]),i0,i0,f6],[(i6 1),e6,i0,i0,i0,n6,n6,i0,i0,f6]])]),i0,(.agg [(.sl false [[(i6 5),(.str (.mk #[82])),i0,i0,i0,n6,n6,i0,i0,f6],[(i6 1),e6,i0,i0,i0,n6,n6,i0,i0,f6]])]),i0],none,(i0,none)⟩ :: awk_M22
theorem awk_k23:q0r allT q01 awk_M23:=awk_k22.more 3000 _ (by kernel_rfl)
def awk_M24:List ME:=⟨32,[(.agg [(.sl false [[(i6 5),(.str (.mk #[82])),i0,i0,i0,n6,(.sl false [[(i6 1),(.str (.mk #[120])),(i6 1),f6,t6,(i6 1),t6,i0,e6,i0,n6,n6,n6]]),i0,i0,f6],[(i6 1),e6,i0,i0,i0,n6,n6,i0,i0,f6]]),i0]),(.agg [(.sl false [[(i6 5),(.str (.mk #[82])),i0,i0,i0,n6,n6,i0,i0,f6],[(i6 1),e6,i0,i0,i0,n6,n6,i0,i0,f6]]),i0])],none,((.tup [n6,i0,(i6 15)]),none)⟩ :: awk_M23
theorem awk_k24:q0r allT q01 awk_M24:=awk_k23.more 3000 _ (by kernel_rfl)
def awk_M25:List ME:=⟨21,[(.agg [(.sl false [[(i6 5),(.str (.mk #[82])),i0,i0,i0,n6,(.sl false [[(i6 1),(.str (.mk #[120])),(i6 1),f6,t6,(i6 1),t6,i0,e6,i0,n6,n6,n6]]),i0,i0,f6],[(i6 1),e6,i0,i0,i0,n6,n6,i0,i0,f6]]),i0]),(.agg [(.sl false [[(i6 5),(.str (.mk #[82])),i0,i0,i0,n6,n6,i0,i0,f6],[(i6 1),e6,i0,i0,i0,n6,n6,i0,i0,f6]]),i0])],none,((.tup [t6,i0]),none)⟩ :: awk_M24
theorem awk_k25:q0r allT q01 awk_M25:=awk_k24.more 3000 _ (by kernel_rfl)
def awk_M26:List ME:=⟨203,[(.agg [(.sl false [[(i6 5),(.str (.mk #[82])),i0,i0,i0,n6,(.sl false [[(i6 1),(.str (.mk #[120])),(i6 1),f6,t6,(i6 1),f6,i0,e6,i0,n6,n6,n6]]),i0,i0,f6],[(i6 1),e6,i0,i0,i0,n6,n6,i0,i0,f6]])])],none,(i0,none)⟩ :: awk_M25
theorem awk_k26:q0r allT q01 awk_M26:=awk_k25.more 3000 _ (by kernel_rfl)
def awk_M27:List ME:=⟨204,[(.agg [(.sl false [[(i6 5),(.str (.mk #[82])),i0,i0,i0,n6,(.sl false [[(i6 1),(.str (.mk #[120])),(i6 1),f6,t6,(i6 1),f6,i0,e6,i0,n6,n6,n6]]),i0,i0,f6],[(i6 1),e6,i0,i0,i0,n6,n6,i0,i0,f6]])])],none,((.tup [i0,i0,i0]),none)⟩ :: awk_M26
theorem awk_k27:q0r allT q01 awk_M27:=awk_k26.more 3000 _ (by kernel_rfl)
def awk_M28:List ME:=⟨173,[(.agg [(.sl false [[(i6 5),(.str (.mk #[82])),i0,i0,i0,n6,(.sl false [[(i6 1),(.str (.mk #[120])),(i6 1),f6,t6,(i6 1),f6,i0,e6,i0,n6,n6,n6]]),i0,i0,f6],[(i6 1),e6,i0,i0,i0,n6,n6,i0,i0,f6]])])],none,(i0,none)⟩ :: awk_M27
theorem awk_k28:q0r allT q01 awk_M28:=awk_k27.more 3000 _ (by kernel_rfl)
def awk_M29:List ME:=⟨174,[(.agg [(.sl false [[(i6 5),(.str (.mk #[82])),i0,i0,i0,n6,(.sl false [[(i6 1),(.str (.mk #[120])),(i6 1),f6,t6,(i6 1),f6,i0,e6,i0,n6,n6,n6]]),i0,i0,f6],[(i6 1),e6,i0,i0,i0,n6,n6,i0,i0,f6]])])],none,((.sl false [[(i6 2)],[(i6 2)]]),none)⟩ :: awk_M28
theorem awk_k29:q0r allT q01 awk_M29:=awk_k28.more 3000 _ (by kernel_rfl)
def awk_M30:List ME:=⟨144,[(.agg [(.sl false [[(i6 5),(.str (.mk #[82])),i0,i0,i0,n6,(.sl false [[(i6 1),(.str (.mk #[120])),(i6 1),f6,t6,(i6 1),f6,i0,e6,i0,n6,n6,n6]]),i0,i0,f6],[(i6 1),e6,i0,i0,i0,n6,n6,i0,i0,f6]])])],none,((.tup [(.sl false [[t6],[t6]]),i0]),none)⟩ :: awk_M29
theorem awk_k30:q0r allT q01 awk_M30:=awk_k29.more 3000 _ (by kernel_rfl)
def awk_M31:List ME:=⟨95,[(.agg [(.sl false [[(i6 5),(.str (.mk #[82])),i0,i0,i0,n6,(.sl false [[(i6 1),(.str (.mk #[120])),(i6 1),f6,t6,(i6 1),f6,i0,e6,i0,n6,n6,n6]]),i0,i0,f6],[(i6 1),e6,i0,i0,i0,n6,n6,i0,i0,f6]])])],none,(i0,none)⟩ :: awk_M30
theorem awk_k31:q0r allT q01 awk_M31:=awk_k30.more 3000 _ (by kernel_rfl)
def awk_M32:List ME:=⟨79,[(.agg [(.sl false [[(i6 5),(.str (.mk #[82])),i0,i0,i0,n6,n6,i0,i0,f6],[(i6 1),e6,i0,i0,i0,n6,n6,i0,i0,f6]])]),i0,(.agg [(.sl false [[(i6 5),(.str (.mk #[82])),i0,i0,i0,n6,(.sl false [[(i6 1),(.str (.mk #[120])),(i6 1),f6,t6,(i6 1),f6,i0,e6,i0,n6,n6,n6]]),i0,i0,f6],[(i6 1),e6,i0,i0,i0,n6,n6,i0,i0,f6]])]),i0],none,(n6,none)⟩ :: awk_M31
theorem awk_k32:q0r allT q01 awk_M32:=awk_k31.more 3000 _ (by kernel_rfl)
def awk_M33:List ME:=⟨81,[(.agg [(.sl false [[(i6 5),(.str (.mk #[82])),i0,i0,i0,n6,n6,i0,i0,f6],[(i6 1),e6,i0,i0,i0,n6,n6,i0,i0,f6]]),i0]),(.agg [(.sl false [[(i6 5),(.str (.mk #[82])),i0,i0,i0,n6,(.sl false [[(i6 1),(.str (.mk #[120])),(i6 1),f6,t6,(i6 1),f6,i0,e6,i0,n6,n6,n6]]),i0,i0,f6],[(i6 1),e6,i0,i0,i0,n6,n6,i0,i0,f6]]),i0])],none,((.tup [(.sl false [[i0,i0]]),(.sl false [[(i6 (-1))]])]),none)⟩ :: awk_M32
theorem awk_k33:q0r allT q01 awk_M33:=awk_k32.more 3000 _ (by kernel_rfl)
def awk_M34:List ME:=⟨77,[(.agg [(.sl false [[(i6 5),(.str (.mk #[82])),i0,i0,i0,n6,n6,i0,i0,f6],[(i6 1),e6,i0,i0,i0,n6,n6,i0,i0,f6]])]),i0,(.agg [(.sl false [[(i6 5),(.str (.mk #[82])),i0,i0,i0,n6,(.sl false [[(i6 1),(.str (.mk #[120])),(i6 1),f6,t6,(i6 1),f6,i0,e6,i0,n6,n6,n6]]),i0,i0,f6],[(i6 1),e6,i0,i0,i0,n6,n6,i0,i0,f6]])]),i0],none,(i0,none)⟩ :: awk_M33
theorem awk_k34:q0r allT q01 awk_M34:=awk_k33.more 3000 _ (by kernel_rfl)
def awk_M35:List ME:=⟨32,[(.agg [(.sl false [[(i6 5),(.str (.mk #[82])),i0,i0,i0,n6,n6,i0,i0,f6],[(i6 1),e6,i0,i0,i0,n6,n6,i0,i0,f6]]),i0]),(.agg [(.sl false [[(i6 5),(.str (.mk #[82])),i0,i0,i0,n6,(.sl false [[(i6 1),(.str (.mk #[120])),(i6 1),f6,t6,(i6 1),f6,i0,e6,i0,n6,n6,n6]]),i0,i0,f6],[(i6 1),e6,i0,i0,i0,n6,n6,i0,i0,f6]]),i0])],none,((.tup [n6,i0,(i6 15)]),none)⟩ :: awk_M34
theorem awk_k35:q0r allT q01 awk_M35:=awk_k34.more 3000 _ (by kernel_rfl)
def awk_M36:List ME:=⟨21,[(.agg [(.sl false [[(i6 5),(.str (.mk #[82])),i0,i0,i0,n6,n6,i0,i0,f6],[(i6 1),e6,i0,i0,i0,n6,n6,i0,i0,f6]]),i0]),(.agg [(.sl false [[(i6 5),(.str (.mk #[82])),i0,i0,i0,n6,(.sl false [[(i6 1),(.str (.mk #[120])),(i6 1),f6,t6,(i6 1),f6,i0,e6,i0,n6,n6,n6]]),i0,i0,f6],[(i6 1),e6,i0,i0,i0,n6,n6,i0,i0,f6]]),i0])],none,((.tup [t6,i0]),none)⟩ :: awk_M35
theorem awk_k36:q0r allT q01 awk_M36:=awk_k35.more 3000 _ (by kernel_rfl)
def awk_M37:List ME:=⟨79,[(.agg [(.sl false [[(i6 5),(.str (.mk #[82])),i0,i0,i0,n6,(.sl false [[(i6 1),(.str (.mk #[120])),(i6 1),f6,t6,(i6 1),t6,i0,e6,i0,n6,n6,n6]]),i0,i0,f6],[(i6 1),e6,i0,i0,i0,n6,n6,i0,i0,f6]])]),i0,(.agg [(.sl false [[(i6 5),(.str (.mk #[82])),i0,i0,i0,n6,(.sl false [[(i6 1),(.str (.mk #[120])),(i6 1),f6,t6,(i6 1),f6,i0,e6,i0,n6,n6,n6]]),i0,i0,f6],[(i6 1),e6,i0,i0,i0,n6,n6,i0,i0,f6]])]),i0],none,((.sl false [[(i6 1),(i6 1)]]),none)⟩ :: awk_M36
theorem awk_k37:q0r allT q01 awk_M37:=awk_k36.more 3000 _ (by kernel_rfl)
def awk_M38:List ME:=⟨79,[(.agg [(.sl false [[(i6 5),(.str (.mk #[82])),i0,i0,i0,n6,(.sl false [[(i6 1),(.str (.mk #[120])),(i6 1),f6,t6,(i6 1),t6,i0,e6,i0,n6,n6,n6]]),i0,i0,f6],[(i6 1),e6,i0,i0,i0,n6,n6,i0,i0,f6]])]),(i6 1),(.agg [(.sl false [[(i6 5),(.str (.mk #[82])),i0,i0,i0,n6,(.sl false [[(i6 1),(.str (.mk #[120])),(i6 1),f6,t6,(i6 1),f6,i0,e6,i0,n6,n6,n6]]),i0,i0,f6],[(i6 1),e6,i0,i0,i0,n6,n6,i0,i0,f6]])]),(i6 1)],none,(n6,none)⟩ :: awk_M37
theorem awk_k38:q0r allT q01 awk_M38:=awk_k37.more 3000 _ (by kernel_rfl)
def awk_M39:List ME:=⟨81,[(.agg [(.sl false [[(i6 5),(.str (.mk #[82])),i0,i0,i0,n6,(.sl false [[(i6 1),(.str (.mk #[120])),(i6 1),f6,t6,(i6 1),t6,i0,e6,i0,n6,n6,n6]]),i0,i0,f6],[(i6 1),e6,i0,i0,i0,n6,n6,i0,i0,f6]]),i0]),(.agg [(.sl false [[(i6 5),(.str (.mk #[82])),i0,i0,i0,n6,(.sl false [[(i6 1),(.str (.mk #[120])),(i6 1),f6,t6,(i6 1),f6,i0,e6,i0,n6,n6,n6]]),i0,i0,f6],[(i6 1),e6,i0,i0,i0,n6,n6,i0,i0,f6]]),i0])],none,((.tup [(.sl false [[i0,i0],[(i6 1),(i6 1)]]),(.sl false [[(i6 (-1))],[i0]])]),none)⟩ :: awk_M38
theorem awk_k39:q0r allT q01 awk_M39:=awk_k38.more 3000 _ (by kernel_rfl)
def awk_M40:List ME:=⟨155,[(.agg [(.sl false [[(i6 5),(.str (.mk #[82])),i0,i0,i0,n6,(.sl false [[(i6 1),(.str (.mk #[120])),(i6 1),f6,t6,(i6 1),t6,i0,e6,i0,n6,n6,n6]]),i0,i0,f6],[(i6 1),e6,i0,i0,i0,n6,n6,i0,i0,f6]])]),(i6 1),(.agg [(i6 1),t6,i0,e6,i0,n6,n6,n6]),(.agg [(.sl false [[(i6 5),(.str (.mk #[82])),i0,i0,i0,n6,(.sl false [[(i6 1),(.str (.mk #[120])),(i6 1),f6,t6,(i6 1),f6,i0,e6,i0,n6,n6,n6]]),i0,i0,f6],[(i6 1),e6,i0,i0,i0,n6,n6,i0,i0,f6]])]),(i6 1)],none,((.tup [(.agg [(i6 1),t6,i0,e6,i0,n6,n6,n6]),i0]),none)⟩ :: awk_M39
theorem awk_k40:q0r allT q01 awk_M40:=awk_k39.more 3000 _ (by kernel_rfl)
def awk_M41:List ME:=⟨77,[(.agg [(.sl false [[(i6 5),(.str (.mk #[82])),i0,i0,i0,n6,(.sl false [[(i6 1),(.str (.mk #[120])),(i6 1),f6,t6,(i6 1),t6,i0,e6,i0,n6,n6,n6]]),i0,i0,f6],[(i6 1),e6,i0,i0,i0,n6,n6,i0,i0,f6]])]),i0,(.agg [(.sl false [[(i6 5),(.str (.mk #[82])),i0,i0,i0,n6,(.sl false [[(i6 1),(.str (.mk #[120])),(i6 1),f6,t6,(i6 1),f6,i0,e6,i0,n6,n6,n6]]),i0,i0,f6],[(i6 1),e6,i0,i0,i0,n6,n6,i0,i0,f6]])]),i0],none,((i6 10),none)⟩ :: awk_M40
theorem awk_k41:q0r allT q01 awk_M41:=awk_k40.more 3000 _ (by kernel_rfl)
def awk_M42:List ME:=⟨32,[(.agg [(.sl false [[(i6 5),(.str (.mk #[82])),i0,i0,i0,n6,(.sl false [[(i6 1),(.str (.mk #[120])),(i6 1),f6,t6,(i6 1),t6,i0,e6,i0,n6,n6,n6]]),i0,i0,f6],[(i6 1),e6,i0,i0,i0,n6,n6,i0,i0,f6]]),i0]),(.agg [(.sl false [[(i6 5),(.str (.mk #[82])),i0,i0,i0,n6,(.sl false [[(i6 1),(.str (.mk #[120])),(i6 1),f6,t6,(i6 1),f6,i0,e6,i0,n6,n6,n6]]),i0,i0,f6],[(i6 1),e6,i0,i0,i0,n6,n6,i0,i0,f6]]),i0])],none,((.tup [(.sl false [[i0,i0]]),(i6 10),i0]),none)⟩ :: awk_M41
theorem awk_k42:q0r allT q01 awk_M42:=awk_k41.more 3000 _ (by kernel_rfl)
def awk_M43:List ME:=⟨21,[(.agg [(.sl false [[(i6 5),(.str (.mk #[82])),i0,i0,i0,n6,(.sl false [[(i6 1),(.str (.mk #[120])),(i6 1),f6,t6,(i6 1),t6,i0,e6,i0,n6,n6,n6]]),i0,i0,f6],[(i6 1),e6,i0,i0,i0,n6,n6,i0,i0,f6]]),i0]),(.agg [(.sl false [[(i6 5),(.str (.mk #[82])),i0,i0,i0,n6,(.sl false [[(i6 1),(.str (.mk #[120])),(i6 1),f6,t6,(i6 1),f6,i0,e6,i0,n6,n6,n6]]),i0,i0,f6],[(i6 1),e6,i0,i0,i0,n6,n6,i0,i0,f6]]),i0])],none,((.tup [f6,i0]),none)⟩ :: awk_M42
theorem awk_k43:q0r allT q01 awk_M43:=awk_k42.more 3000 _ (by kernel_rfl)
def awk_M44:List ME:=⟨79,[(.agg [(.sl false [[(i6 5),(.str (.mk #[82])),i0,i0,i0,n6,(.sl false [[(i6 1),(.str (.mk #[120])),(i6 1),f6,t6,(i6 1),t6,i0,e6,i0,n6,n6,n6]]),i0,i0,f6],[(i6 1),e6,i0,i0,i0,n6,n6,i0,i0,f6]])]),i0,(.agg [(.sl false [[(i6 5),(.str (.mk #[82])),i0,i0,i0,n6,(.sl false [[(i6 1),(.str (.mk #[120])),(i6 1),f6,t6,(i6 1),t6,i0,e6,i0,n6,n6,n6]]),i0,i0,f6],[(i6 1),e6,i0,i0,i0,n6,n6,i0,i0,f6]])]),i0],none,((.sl false [[(i6 1),(i6 1)]]),none)⟩ :: awk_M43
theorem awk_k44:q0r allT q01 awk_M44:=awk_k43.more 3000 _ (by kernel_rfl)
def awk_M45:List ME:=⟨79,[(.agg [(.sl false [[(i6 5),(.str (.mk #[82])),i0,i0,i0,n6,(.sl false [[(i6 1),(.str (.mk #[120])),(i6 1),f6,t6,(i6 1),t6,i0,e6,i0,n6,n6,n6]]),i0,i0,f6],[(i6 1),e6,i0,i0,i0,n6,n6,i0,i0,f6]])]),(i6 1),(.agg [(.sl false [[(i6 5),(.str (.mk #[82])),i0,i0,i0,n6,(.sl false [[(i6 1),(.str (.mk #[120])),(i6 1),f6,t6,(i6 1),t6,i0,e6,i0,n6,n6,n6]]),i0,i0,f6],[(i6 1),e6,i0,i0,i0,n6,n6,i0,i0,f6]])]),(i6 1)],none,(n6,none)⟩ :: awk_M44
theorem awk_k45:q0r allT q01 awk_M45:=awk_k44.more 3000 _ (by kernel_rfl)
def awk_M46:List ME:=⟨81,[(.agg [(.sl false [[(i6 5),(.str (.mk #[82])),i0,i0,i0,n6,(.sl false [[(i6 1),(.str (.mk #[120])),(i6 1),f6,t6,(i6 1),t6,i0,e6,i0,n6,n6,n6]]),i0,i0,f6],[(i6 1),e6,i0,i0,i0,n6,n6,i0,i0,f6]]),i0]),(.agg [(.sl false [[(i6 5),(.str (.mk #[82])),i0,i0,i0,n6,(.sl false [[(i6 1),(.str (.mk #[120])),(i6 1),f6,t6,(i6 1),t6,i0,e6,i0,n6,n6,n6]]),i0,i0,f6],[(i6 1),e6,i0,i0,i0,n6,n6,i0,i0,f6]]),i0])],none,((.tup [(.sl false [[i0,i0],[(i6 1),(i6 1)]]),(.sl false [[(i6 (-1))],[i0]])]),none)⟩ :: awk_M45
theorem awk_k46:q0r allT q01 awk_M46:=awk_k45.more 3000 _ (by kernel_rfl)
def awk_M47:List ME:=⟨155,[(.agg [(.sl false [[(i6 5),(.str (.mk #[82])),i0,i0,i0,n6,(.sl false [[(i6 1),(.str (.mk #[120])),(i6 1),f6,t6,(i6 1),t6,i0,e6,i0,n6,n6,n6]]),i0,i0,f6],[(i6 1),e6,i0,i0,i0,n6,n6,i0,i0,f6]])]),(i6 1),(.agg [(i6 1),t6,i0,e6,i0,n6,n6,n6]),(.agg [(.sl false [[(i6 5),(.str (.mk #[82])),i0,i0,i0,n6,(.sl false [[(i6 1),(.str (.mk #[120])),(i6 1),f6,t6,(i6 1),t6,i0,e6,i0,n6,n6,n6]]),i0,i0,f6],[(i6 1),e6,i0,i0,i0,n6,n6,i0,i0,f6]])]),(i6 1)],none,((.tup [(.agg [(i6 1),t6,i0,e6,i0,n6,n6,n6]),i0]),none)⟩ :: awk_M46
theorem awk_k47:q0r allT q01 awk_M47:=awk_k46.more 3000 _ (by kernel_rfl)
def awk_M48:List ME:=⟨77,[(.agg [(.sl false [[(i6 5),(.str (.mk #[82])),i0,i0,i0,n6,(.sl false [[(i6 1),(.str (.mk #[120])),(i6 1),f6,t6,(i6 1),t6,i0,e6,i0,n6,n6,n6]]),i0,i0,f6],[(i6 1),e6,i0,i0,i0,n6,n6,i0,i0,f6]])]),i0,(.agg [(.sl false [[(i6 5),(.str (.mk #[82])),i0,i0,i0,n6,(.sl false [[(i6 1),(.str (.mk #[120])),(i6 1),f6,t6,(i6 1),t6,i0,e6,i0,n6,n6,n6]]),i0,i0,f6],[(i6 1),e6,i0,i0,i0,n6,n6,i0,i0,f6]])]),i0],none,(i0,none)⟩ :: awk_M47
theorem awk_k48:q0r allT q01 awk_M48:=awk_k47.more 3000 _ (by kernel_rfl)
def awk_M49:List ME:=⟨77,[(.agg [(.sl false [[(i6 5),(.str (.mk #[82])),i0,i0,i0,n6,(.sl false [[(i6 1),(.str (.mk #[120])),(i6 1),f6,t6,(i6 1),t6,i0,e6,i0,n6,n6,n6]]),i0,i0,f6],[(i6 1),e6,i0,i0,i0,n6,n6,i0,i0,f6]])]),(i6 1),(.agg [(.sl false [[(i6 5),(.str (.mk #[82])),i0,i0,i0,n6,(.sl false [[(i6 1),(.str (.mk #[120])),(i6 1),f6,t6,(i6 1),t6,i0,e6,i0,n6,n6,n6]]),i0,i0,f6],[(i6 1),e6,i0,i0,i0,n6,n6,i0,i0,f6]])]),(i6 1)],none,(i0,none)⟩ :: awk_M48
theorem awk_k49:q0r allT q01 awk_M49:=awk_k48.more 3000 _ (by kernel_rfl)
def awk_M50:List ME:=⟨32,[(.agg [(.sl false [[(i6 5),(.str (.mk #[82])),i0,i0,i0,n6,(.sl false [[(i6 1),(.str (.mk #[120])),(i6 1),f6,t6,(i6 1),t6,i0,e6,i0,n6,n6,n6]]),i0,i0,f6],[(i6 1),e6,i0,i0,i0,n6,n6,i0,i0,f6]]),i0]),(.agg [(.sl false [[(i6 5),(.str (.mk #[82])),i0,i0,i0,n6,(.sl false [[(i6 1),(.str (.mk #[120])),(i6 1),f6,t6,(i6 1),t6,i0,e6,i0,n6,n6,n6]]),i0,i0,f6],[(i6 1),e6,i0,i0,i0,n6,n6,i0,i0,f6]]),i0])],none,((.tup [n6,i0,(i6 15)]),none)⟩ :: awk_M49
theorem awk_k50:q0r allT q01 awk_M50:=awk_k49.more 3000 _ (by kernel_rfl)
def awk_M51:List ME:=⟨21,[(.agg [(.sl false [[(i6 5),(.str (.mk #[82])),i0,i0,i0,n6,(.sl false [[(i6 1),(.str (.mk #[120])),(i6 1),f6,t6,(i6 1),t6,i0,e6,i0,n6,n6,n6]]),i0,i0,f6],[(i6 1),e6,i0,i0,i0,n6,n6,i0,i0,f6]]),i0]),(.agg [(.sl false [[(i6 5),(.str (.mk #[82])),i0,i0,i0,n6,(.sl false [[(i6 1),(.str (.mk #[120])),(i6 1),f6,t6,(i6 1),t6,i0,e6,i0,n6,n6,n6]]),i0,i0,f6],[(i6 1),e6,i0,i0,i0,n6,n6,i0,i0,f6]]),i0])],none,((.tup [t6,i0]),none)⟩ :: awk_M50
theorem awk_k51:q0r allT q01 awk_M51:=awk_k50.more 3000 _ (by kernel_rfl)
def awk_M52:List ME:=⟨70,[t6,f6,f6],none,((.agg [(.sl false [[(i6 5),(.str (.mk #[82])),i0,i0,i0,n6,(.sl false [[(i6 1),(.str (.mk #[120])),(i6 1),f6,f6,i0,f6,i0,e6,i0,n6,n6,n6]]),i0,i0,f6],[(i6 1),e6,i0,i0,i0,n6,n6,i0,i0,f6]]),i0]),none)⟩ :: awk_M51
theorem awk_k52:q0r allT q01 awk_M52:=awk_k51.more 3000 _ (by kernel_rfl)
def awk_M53:List ME:=⟨203,[(.agg [(.sl false [[(i6 5),(.str (.mk #[82])),i0,i0,i0,n6,(.sl false [[(i6 1),(.str (.mk #[120])),(i6 1),f6,f6,i0,f6,i0,e6,i0,n6,n6,n6]]),i0,i0,f6],[(i6 1),e6,i0,i0,i0,n6,n6,i0,i0,f6]])])],none,(i0,none)⟩ :: awk_M52
theorem awk_k53:q0r allT q01 awk_M53:=awk_k52.more 3000 _ (by kernel_rfl)
def awk_M54:List ME:=⟨204,[(.agg [(.sl false [[(i6 5),(.str (.mk #[82])),i0,i0,i0,n6,(.sl false [[(i6 1),(.str (.mk #[120])),(i6 1),f6,f6,i0,f6,i0,e6,i0,n6,n6,n6]]),i0,i0,f6],[(i6 1),e6,i0,i0,i0,n6,n6,i0,i0,f6]])])],none,((.tup [i0,i0,i0]),none)⟩ :: awk_M53
theorem awk_k54:q0r allT q01 awk_M54:=awk_k53.more 3000 _ (by kernel_rfl)
def awk_M55:List ME:=⟨173,[(.agg [(.sl false [[(i6 5),(.str (.mk #[82])),i0,i0,i0,n6,(.sl false [[(i6 1),(.str (.mk #[120])),(i6 1),f6,f6,i0,f6,i0,e6,i0,n6,n6,n6]]),i0,i0,f6],[(i6 1),e6,i0,i0,i0,n6,n6,i0,i0,f6]])])],none,(i0,none)⟩ :: awk_M54
theorem awk_k55:q0r allT q01 awk_M55:=awk_k54.more 3000 _ (by kernel_rfl)
def awk_M56:List ME:=⟨174,[(.agg [(.sl false [[(i6 5),(.str (.mk #[82])),i0,i0,i0,n6,(.sl false [[(i6 1),(.str (.mk #[120])),(i6 1),f6,f6,i0,f6,i0,e6,i0,n6,n6,n6]]),i0,i0,f6],[(i6 1),e6,i0,i0,i0,n6,n6,i0,i0,f6]])])],none,((.sl false [[(i6 2)],[(i6 2)]]),none)⟩ :: awk_M55
theorem awk_k56:q0r allT q01 awk_M56:=awk_k55.more 3000 _ (by kernel_rfl)
def awk_M57:List ME:=⟨144,[(.agg [(.sl false [[(i6 5),(.str (.mk #[82])),i0,i0,i0,n6,(.sl false [[(i6 1),(.str (.mk #[120])),(i6 1),f6,f6,i0,f6,i0,e6,i0,n6,n6,n6]]),i0,i0,f6],[(i6 1),e6,i0,i0,i0,n6,n6,i0,i0,f6]])])],none,((.tup [(.sl false [[t6],[t6]]),i0]),none)⟩ :: awk_M56
theorem awk_k57:q0r allT q01 awk_M57:=awk_k56.more 3000 _ (by kernel_rfl)
def awk_M58:List ME:=⟨95,[(.agg [(.sl false [[(i6 5),(.str (.mk #[82])),i0,i0,i0,n6,(.sl false [[(i6 1),(.str (.mk #[120])),(i6 1),f6,f6,i0,f6,i0,e6,i0,n6,n6,n6]]),i0,i0,f6],[(i6 1),e6,i0,i0,i0,n6,n6,i0,i0,f6]])])],none,(i0,none)⟩ :: awk_M57
theorem awk_k58:q0r allT q01 awk_M58:=awk_k57.more 3000 _ (by kernel_rfl)
def awk_M59:List ME:=⟨77,[(.agg [(.sl false [[(i6 5),(.str (.mk #[82])),i0,i0,i0,n6,(.sl false [[(i6 1),(.str (.mk #[120])),(i6 1),f6,t6,(i6 1),t6,i0,e6,i0,n6,n6,n6]]),i0,i0,f6],[(i6 1),e6,i0,i0,i0,n6,n6,i0,i0,f6]])]),i0,(.agg [(.sl false [[(i6 5),(.str (.mk #[82])),i0,i0,i0,n6,(.sl false [[(i6 1),(.str (.mk #[120])),(i6 1),f6,f6,i0,f6,i0,e6,i0,n6,n6,n6]]),i0,i0,f6],[(i6 1),e6,i0,i0,i0,n6,n6,i0,i0,f6]])]),i0],none,((i6 7),none)⟩ :: awk_M58
theorem awk_k59:q0r allT q01 awk_M59:=awk_k58.more 3000 _ (by kernel_rfl)
def awk_M60:List ME:=⟨24,[(.agg [(.sl false [[(i6 5),(.str (.mk #[82])),i0,i0,i0,n6,(.sl false [[(i6 1),(.str (.mk #[120])),(i6 1),f6,t6,(i6 1),t6,i0,e6,i0,n6,n6,n6]]),i0,i0,f6],[(i6 1),e6,i0,i0,i0,n6,n6,i0,i0,f6]])]),i0,(.agg [(.sl false [[(i6 5),(.str (.mk #[82])),i0,i0,i0,n6,(.sl false [[(i6 1),(.str (.mk #[120])),(i6 1),f6,f6,i0,f6,i0,e6,i0,n6,n6,n6]]),i0,i0,f6],[(i6 1),e6,i0,i0,i0,n6,n6,i0,i0,f6]])]),i0],none,((.tup [(i6 7),i0]),none)⟩ :: awk_M59
theorem awk_k60:q0r allT q01 awk_M60:=awk_k59.more 3000 _ (by kernel_rfl)
def awk_M61:List ME:=⟨24,[(.agg [(.sl false [[(i6 5),(.str (.mk #[82])),i0,i0,i0,n6,(.sl false [[(i6 1),(.str (.mk #[120])),(i6 1),f6,t6,(i6 1),t6,i0,e6,i0,n6,n6,n6]]),i0,i0,f6],[(i6 1),e6,i0,i0,i0,n6,n6,i0,i0,f6]])]),i0,(.agg [(.sl false [[(i6 5),(.str (.mk #[82])),i0,i0,i0,n6,(.sl false [[(i6 1),(.str (.mk #[120])),(i6 1),f6,t6,(i6 1),f6,i0,e6,i0,n6,n6,n6]]),i0,i0,f6],[(i6 1),e6,i0,i0,i0,n6,n6,i0,i0,f6]])]),i0],none,((.tup [(i6 10),i0]),none)⟩ :: awk_M60
theorem awk_k61:q0r allT q01 awk_M61:=awk_k60.more 3000 _ (by kernel_rfl)
def awk_M62:List ME:=⟨71,[(i6 9),(i6 2)],none,((.agg [(.sl false [[(i6 7),e6,i0,i0,(i6 2),n6,n6,i0,(i6 1),f6],[(i6 2),e6,i0,(i6 9),i0,n6,n6,i0,i0,f6]]),i0]),none)⟩ :: awk_M61
theorem awk_k62:q0r allT q01 awk_M62:=awk_k61.more 3000 _ (by kernel_rfl)
def awk_M63:List ME:=⟨71,[(i6 5),(i6 2)],none,((.agg [(.sl false [[(i6 7),e6,i0,i0,(i6 2),n6,n6,i0,(i6 1),f6],[(i6 2),e6,i0,(i6 5),i0,n6,n6,i0,i0,f6]]),i0]),none)⟩ :: awk_M62
theorem awk_k63:q0r allT q01 awk_M63:=awk_k62.more 3000 _ (by kernel_rfl)
def awk_M64:List ME:=⟨203,[(.agg [(.sl false [[(i6 7),e6,i0,i0,(i6 2),n6,n6,i0,(i6 1),f6],[(i6 2),e6,i0,(i6 9),i0,n6,n6,i0,i0,f6]])])],none,(i0,none)⟩ :: awk_M63
theorem awk_k64:q0r allT q01 awk_M64:=awk_k63.more 3000 _ (by kernel_rfl)
def awk_M65:List ME:=⟨204,[(.agg [(.sl false [[(i6 7),e6,i0,i0,(i6 2),n6,n6,i0,(i6 1),f6],[(i6 2),e6,i0,(i6 9),i0,n6,n6,i0,i0,f6]])])],none,((.tup [i0,i0,i0]),none)⟩ :: awk_M64
theorem awk_k65:q0r allT q01 awk_M65:=awk_k64.more 3000 _ (by kernel_rfl)
def awk_M66:List ME:=⟨173,[(.agg [(.sl false [[(i6 7),e6,i0,i0,(i6 2),n6,n6,i0,(i6 1),f6],[(i6 2),e6,i0,(i6 9),i0,n6,n6,i0,i0,f6]])])],none,(i0,none)⟩ :: awk_M65
theorem awk_k66:q0r allT q01 awk_M66:=awk_k65.more 3000 _ (by kernel_rfl)
def awk_M67:List ME:=⟨174,[(.agg [(.sl false [[(i6 7),e6,i0,i0,(i6 2),n6,n6,i0,(i6 1),f6],[(i6 2),e6,i0,(i6 9),i0,n6,n6,i0,i0,f6]])])],none,((.sl false [[(i6 2)],[(i6 2)]]),none)⟩ :: awk_M66
theorem awk_k67:q0r allT q01 awk_M67:=awk_k66.more 3000 _ (by kernel_rfl)
def awk_M68:List ME:=⟨144,[(.agg [(.sl false [[(i6 7),e6,i0,i0,(i6 2),n6,n6,i0,(i6 1),f6],[(i6 2),e6,i0,(i6 9),i0,n6,n6,i0,i0,f6]])])],none,((.tup [(.sl false [[t6],[t6]]),i0]),none)⟩ :: awk_M67
theorem awk_k68:q0r allT q01 awk_M68:=awk_k67.more 3000 _ (by kernel_rfl)
def awk_M69:List ME:=⟨95,[(.agg [(.sl false [[(i6 7),e6,i0,i0,(i6 2),n6,n6,i0,(i6 1),f6],[(i6 2),e6,i0,(i6 9),i0,n6,n6,i0,i0,f6]])])],none,(i0,none)⟩ :: awk_M68
theorem awk_k69:q0r allT q01 awk_M69:=awk_k68.more 3000 _ (by kernel_rfl)
def awk_M70:List ME:=⟨203,[(.agg [(.sl false [[(i6 7),e6,i0,i0,(i6 2),n6,n6,i0,(i6 1),f6],[(i6 2),e6,i0,(i6 5),i0,n6,n6,i0,i0,f6]])])],none,(i0,none)⟩ :: awk_M69
theorem awk_k70:q0r allT q01 awk_M70:=awk_k69.more 3000 _ (by kernel_rfl)
def awk_M71:List ME:=⟨204,[(.agg [(.sl false [[(i6 7),e6,i0,i0,(i6 2),n6,n6,i0,(i6 1),f6],[(i6 2),e6,i0,(i6 5),i0,n6,n6,i0,i0,f6]])])],none,((.tup [i0,i0,i0]),none)⟩ :: awk_M70
theorem awk_k71:q0r allT q01 awk_M71:=awk_k70.more 3000 _ (by kernel_rfl)
def awk_M72:List ME:=⟨173,[(.agg [(.sl false [[(i6 7),e6,i0,i0,(i6 2),n6,n6,i0,(i6 1),f6],[(i6 2),e6,i0,(i6 5),i0,n6,n6,i0,i0,f6]])])],none,(i0,none)⟩ :: awk_M71
theorem awk_k72:q0r allT q01 awk_M72:=awk_k71.more 3000 _ (by kernel_rfl)
def awk_M73:List ME:=⟨174,[(.agg [(.sl false [[(i6 7),e6,i0,i0,(i6 2),n6,n6,i0,(i6 1),f6],[(i6 2),e6,i0,(i6 5),i0,n6,n6,i0,i0,f6]])])],none,((.sl false [[(i6 2)],[(i6 2)]]),none)⟩ :: awk_M72
theorem awk_k73:q0r allT q01 awk_M73:=awk_k72.more 3000 _ (by kernel_rfl)
def awk_M74:List ME:=⟨144,[(.agg [(.sl false [[(i6 7),e6,i0,i0,(i6 2),n6,n6,i0,(i6 1),f6],[(i6 2),e6,i0,(i6 5),i0,n6,n6,i0,i0,f6]])])],none,((.tup [(.sl false [[t6],[t6]]),i0]),none)⟩ :: awk_M73
theorem awk_k74:q0r allT q01 awk_M74:=awk_k73.more 3000 _ (by kernel_rfl)
def awk_M75:List ME:=⟨95,[(.agg [(.sl false [[(i6 7),e6,i0,i0,(i6 2),n6,n6,i0,(i6 1),f6],[(i6 2),e6,i0,(i6 5),i0,n6,n6,i0,i0,f6]])])],none,(i0,none)⟩ :: awk_M74
theorem awk_k75:q0r allT q01 awk_M75:=awk_k74.more 3000 _ (by kernel_rfl)
def awk_M76:List ME:=⟨79,[(.agg [(.sl false [[(i6 7),e6,i0,i0,(i6 2),n6,n6,i0,(i6 1),f6],[(i6 2),e6,i0,(i6 9),i0,n6,n6,i0,i0,f6]])]),i0,(.agg [(.sl false [[(i6 7),e6,i0,i0,(i6 2),n6,n6,i0,(i6 1),f6],[(i6 2),e6,i0,(i6 5),i0,n6,n6,i0,i0,f6]])]),i0],none,((.sl false [[(i6 1),(i6 1)]]),none)⟩ :: awk_M75
theorem awk_k76:q0r allT q01 awk_M76:=awk_k75.more 3000 _ (by kernel_rfl)
def awk_M77:List ME:=⟨79,[(.agg [(.sl false [[(i6 7),e6,i0,i0,(i6 2),n6,n6,i0,(i6 1),f6],[(i6 2),e6,i0,(i6 9),i0,n6,n6,i0,i0,f6]])]),(i6 1),(.agg [(.sl false [[(i6 7),e6,i0,i0,(i6 2),n6,n6,i0,(i6 1),f6],[(i6 2),e6,i0,(i6 5),i0,n6,n6,i0,i0,f6]])]),(i6 1)],none,(n6,none)⟩ :: awk_M76
theorem awk_k77:q0r allT q01 awk_M77:=awk_k76.more 3000 _ (by kernel_rfl)
def awk_M78:List ME:=⟨81,[(.agg [(.sl false [[(i6 7),e6,i0,i0,(i6 2),n6,n6,i0,(i6 1),f6],[(i6 2),e6,i0,(i6 9),i0,n6,n6,i0,i0,f6]]),i0]),(.agg [(.sl false [[(i6 7),e6,i0,i0,(i6 2),n6,n6,i0,(i6 1),f6],[(i6 2),e6,i0,(i6 5),i0,n6,n6,i0,i0,f6]]),i0])],none,((.tup [(.sl false [[i0,i0],[(i6 1),(i6 1)]]),(.sl false [[(i6 (-1))],[i0]])]),none)⟩ :: awk_M77
theorem awk_k78:q0r allT q01 awk_M78:=awk_k77.more 3000 _ (by kernel_rfl)
def awk_M79:List ME:=⟨77,[(.agg [(.sl false [[(i6 7),e6,i0,i0,(i6 2),n6,n6,i0,(i6 1),f6],[(i6 2),e6,i0,(i6 9),i0,n6,n6,i0,i0,f6]])]),i0,(.agg [(.sl false [[(i6 7),e6,i0,i0,(i6 2),n6,n6,i0,(i6 1),f6],[(i6 2),e6,i0,(i6 5),i0,n6,n6,i0,i0,f6]])]),i0],none,(i0,none)⟩ :: awk_M78
theorem awk_k79:q0r allT q01 awk_M79:=awk_k78.more 3000 _ (by kernel_rfl)
def awk_M80:List ME:=⟨77,[(.agg [(.sl false [[(i6 7),e6,i0,i0,(i6 2),n6,n6,i0,(i6 1),f6],[(i6 2),e6,i0,(i6 9),i0,n6,n6,i0,i0,f6]])]),(i6 1),(.agg [(.sl false [[(i6 7),e6,i0,i0,(i6 2),n6,n6,i0,(i6 1),f6],[(i6 2),e6,i0,(i6 5),i0,n6,n6,i0,i0,f6]])]),(i6 1)],none,((i6 2),none)⟩ :: awk_M79
theorem awk_k80:q0r allT q01 awk_M80:=awk_k79.more 3000 _ (by kernel_rfl)
def awk_M81:List ME:=⟨32,[(.agg [(.sl false [[(i6 7),e6,i0,i0,(i6 2),n6,n6,i0,(i6 1),f6],[(i6 2),e6,i0,(i6 9),i0,n6,n6,i0,i0,f6]]),i0]),(.agg [(.sl false [[(i6 7),e6,i0,i0,(i6 2),n6,n6,i0,(i6 1),f6],[(i6 2),e6,i0,(i6 5),i0,n6,n6,i0,i0,f6]]),i0])],none,((.tup [(.sl false [[i0,i0],[(i6 1),(i6 1)]]),(i6 2),i0]),none)⟩ :: awk_M80
theorem awk_k81:q0r allT q01 awk_M81:=awk_k80.more 3000 _ (by kernel_rfl)
def awk_M82:List ME:=⟨71,[(i6 9),i0],none,((.agg [(.sl false [[(i6 7),e6,i0,i0,i0,n6,n6,i0,(i6 1),f6],[(i6 2),e6,i0,(i6 9),i0,n6,n6,i0,i0,f6]]),i0]),none)⟩ :: awk_M81
theorem awk_k82:q0r allT q01 awk_M82:=awk_k81.more 3000 _ (by kernel_rfl)
def awk_M83:List ME:=⟨203,[(.agg [(.sl false [[(i6 7),e6,i0,i0,i0,n6,n6,i0,(i6 1),f6],[(i6 2),e6,i0,(i6 9),i0,n6,n6,i0,i0,f6]])])],none,(i0,none)⟩ :: awk_M82
theorem awk_k83:q0r allT q01 awk_M83:=awk_k82.more 3000 _ (by kernel_rfl)
def awk_M84:List ME:=⟨204,[(.agg [(.sl false [[(i6 7),e6,i0,i0,i0,n6,n6,i0,(i6 1),f6],[(i6 2),e6,i0,(i6 9),i0,n6,n6,i0,i0,f6]])])],none,((.tup [i0,i0,i0]),none)⟩ :: awk_M83
theorem awk_k84:q0r allT q01 awk_M84:=awk_k83.more 3000 _ (by kernel_rfl)
def awk_M85:List ME:=⟨173,[(.agg [(.sl false [[(i6 7),e6,i0,i0,i0,n6,n6,i0,(i6 1),f6],[(i6 2),e6,i0,(i6 9),i0,n6,n6,i0,i0,f6]])])],none,(i0,none)⟩ :: awk_M84
theorem awk_k85:q0r allT q01 awk_M85:=awk_k84.more 3000 _ (by kernel_rfl)
def awk_M86:List ME:=⟨174,[(.agg [(.sl false [[(i6 7),e6,i0,i0,i0,n6,n6,i0,(i6 1),f6],[(i6 2),e6,i0,(i6 9),i0,n6,n6,i0,i0,f6]])])],none,((.sl false [[(i6 1)],[(i6 2)]]),none)⟩ :: awk_M85
theorem awk_k86:q0r allT q01 awk_M86:=awk_k85.more 3000 _ (by kernel_rfl)
def awk_M87:List ME:=⟨144,[(.agg [(.sl false [[(i6 7),e6,i0,i0,i0,n6,n6,i0,(i6 1),f6],[(i6 2),e6,i0,(i6 9),i0,n6,n6,i0,i0,f6]])])],none,((.tup [(.sl false [[t6],[t6]]),i0]),none)⟩ :: awk_M86
theorem awk_k87:q0r allT q01 awk_M87:=awk_k86.more 3000 _ (by kernel_rfl)
def awk_M88:List ME:=⟨95,[(.agg [(.sl false [[(i6 7),e6,i0,i0,i0,n6,n6,i0,(i6 1),f6],[(i6 2),e6,i0,(i6 9),i0,n6,n6,i0,i0,f6]])])],none,(i0,none)⟩ :: awk_M87
theorem awk_k88:q0r allT q01 awk_M88:=awk_k87.more 3000 _ (by kernel_rfl)
def awk_M89:List ME:=⟨79,[(.agg [(.sl false [[(i6 7),e6,i0,i0,i0,n6,n6,i0,(i6 1),f6],[(i6 2),e6,i0,(i6 9),i0,n6,n6,i0,i0,f6]])]),i0,(.agg [(.sl false [[(i6 7),e6,i0,i0,(i6 2),n6,n6,i0,(i6 1),f6],[(i6 2),e6,i0,(i6 5),i0,n6,n6,i0,i0,f6]])]),i0],none,(n6,none)⟩ :: awk_M88
theorem awk_k89:q0r allT q01 awk_M89:=awk_k88.more 3000 _ (by kernel_rfl)
def awk_M90:List ME:=⟨81,[(.agg [(.sl false [[(i6 7),e6,i0,i0,i0,n6,n6,i0,(i6 1),f6],[(i6 2),e6,i0,(i6 9),i0,n6,n6,i0,i0,f6]]),i0]),(.agg [(.sl false [[(i6 7),e6,i0,i0,(i6 2),n6,n6,i0,(i6 1),f6],[(i6 2),e6,i0,(i6 5),i0,n6,n6,i0,i0,f6]]),i0])],none,((.tup [(.sl false [[i0,i0]]),(.sl false [[(i6 (-1))]])]),none)⟩ :: awk_M89
theorem awk_k90:q0r allT q01 awk_M90:=awk_k89.more 3000 _ (by kernel_rfl)
def awk_M91:List ME:=⟨77,[(.agg [(.sl false [[(i6 7),e6,i0,i0,i0,n6,n6,i0,(i6 1),f6],[(i6 2),e6,i0,(i6 9),i0,n6,n6,i0,i0,f6]])]),i0,(.agg [(.sl false [[(i6 7),e6,i0,i0,(i6 2),n6,n6,i0,(i6 1),f6],[(i6 2),e6,i0,(i6 5),i0,n6,n6,i0,i0,f6]])]),i0],none,(i0,none)⟩ :: awk_M90
theorem awk_k91:q0r allT q01 awk_M91:=awk_k90.more 3000 _ (by kernel_rfl)
def awk_M92:List ME:=⟨32,[(.agg [(.sl false [[(i6 7),e6,i0,i0,i0,n6,n6,i0,(i6 1),f6],[(i6 2),e6,i0,(i6 9),i0,n6,n6,i0,i0,f6]]),i0]),(.agg [(.sl false [[(i6 7),e6,i0,i0,(i6 2),n6,n6,i0,(i6 1),f6],[(i6 2),e6,i0,(i6 5),i0,n6,n6,i0,i0,f6]]),i0])],none,((.tup [n6,i0,(i6 15)]),none)⟩ :: awk_M91
theorem awk_k92:q0r allT q01 awk_M92:=awk_k91.more 3000 _ (by kernel_rfl)
def awk_M93:List ME:=⟨21,[(.agg [(.sl false [[(i6 7),e6,i0,i0,i0,n6,n6,i0,(i6 1),f6],[(i6 2),e6,i0,(i6 9),i0,n6,n6,i0,i0,f6]]),i0]),(.agg [(.sl false [[(i6 7),e6,i0,i0,(i6 2),n6,n6,i0,(i6 1),f6],[(i6 2),e6,i0,(i6 5),i0,n6,n6,i0,i0,f6]]),i0])],none,((.tup [t6,i0]),none)⟩ :: awk_M92
theorem awk_k93:q0r allT q01 awk_M93:=awk_k92.more 3000 _ (by kernel_rfl)
theorem awk_knows:q0r allT q01 awk_M93:=awk_k93
theorem awake20_ev:evA 19 [] (.bool true):=awk_knows.run 3000 (by kernel_rfl)
theorem local20_ev {dn cn:Bool} {l:List Nde} {cs:List Chg} {T U:Int} (h:CaseOk l cs T U) (t u:Int):evA 4 [.agg (caseC dn l cn cs T U),.int .i64 t,.int .i64 u] (.bool true):=by
 have haw:=awake20_ev;obtain ⟨r,hr,hof⟩:=of20_ev (dn:=dn) (cn:=cn) h;refine q00 (c:=q1j) rfl rfl ?_;rcases hr with rfl | ⟨l1,l2,t1,u1,o1,o2,hin,rfl⟩
 ·simp only [caseC,badRes] at hof ⊢;simp [q1j,-y0,-y5,-y4,y3,hof,haw]
 ·have s1:=draft_sound o1;have s2:=draft_sound o2;have hF:=simF (draft_F o1) (draft_F o2);have f1:=slocal_ev s1 s2 (i:=t) (k:=u) (fun _=>hF);have f2:=rlocal_ev s1 s2 (i:=t) (k:=u) (fun _=>hF);have f3:=ssucs_ev s1 s2 (i:=t) (k:=u) (fun _=>hF);have f4:=rsucs_ev s1 s2 (i:=t) (k:=u) (fun _=>hF);have hl:(sucL (botE 0 0 (q0d l1).length (q0d l2).length t u=0) (nxP (q0d l1) (q0d l2)) (t,u)).length<=1000000:=by
   unfold sucL;split
   ·rename_i hb;have:=hF.len (t,u) (botE_in hb).2.2;omega
   ·simp
  have f5:=fun b c=>pairs_same _ hl b c
  simp only [evA,schC,caseC,q8g] at f1 f2 f3 f4 f5 hof ⊢;generalize botE 0 0 (q0d l1).length (q0d l2).length t u=e at *
  generalize sucL (e=0) (nxP (q0d l1) (q0d l2)) (t,u)=L at *
  generalize (if e=0 then rsP (q0d l1) (q0d l2) (t,u) else 0)=q at *
  generalize q0d l1=S1 at *
  generalize q0d l2=S2 at *
  simp [q1j,-y0,-y5,-y4,y3,hof,haw,f1,f2,f3,f4,f5]
section
open Go.ChangeShapes Go.WideShapes Go.ChangeAt Go.RowKit
theorem own:ownKnob Tryz.prog.godebug=none:=by kernel_rfl
theorem laidOut:laidOutB Tryz.prog=true:=by kernel_rfl
theorem post_of_below {H:Type} {enc:TypeId × Value->H} {P:Program} {f:Func} {s:ChangeSpec} {apart fresh handsOn:Bool} {W W':World} {args:Array Value} {v:Value} {ds gs:List (DataW H)} {before pa pv:List MemPlace}
  (hW:DataW.Whole enc P f.params.toList s.vars apart W args.toList ds gs before)
  (hres:∀ (b:Nat) (sp:Nat->Bool) (hd:Bool),DataW.TrodAll enc P W' b sp hd f.resultTypes.toList (v.resultList f.resultTypes.size) (s.fn H (ds++gs)).results [])
  (hargs:DataW.TrodAll enc P W' 0 (fun b=>decide (b<W.heap.size)) true f.params.toList args.toList (s.fn H (ds++gs)).args pa)
  (hvars:DataW.TrodVars enc P W' (fun b=>decide (b<W.heap.size)) s.vars (s.fn H (ds++gs)).vars pv)
  (hb:Below W.heap.size W W'):s.post enc P f apart fresh handsOn false W args v W' :=
 ⟨ds,gs,before,[],pa,pv,hW,hres _ _ _,hargs,hvars,hb.frame _,fun h=>by cases h⟩
end
abbrev joinA (P:Program) (f:FuncId) (fn:Func) (s:ChangeSpec) (c:OpenClaim):Bool:=(c.wf (OpenSpec.ofChange s)&&laidOutB P&&mapsRowed P&&fn.params.all (P.readableRec ·)&&namedTie P c.named s.vars&&(c.stops == [])&&(P.stops == [])&&(c.knobs == [])&&(P.stopKnobs == []))
abbrev joinB (P:Program) (f:FuncId) (fn:Func) (s:ChangeSpec) (c:OpenClaim):Bool:=((c.inPlace == P.inPlace f)&&(c.unfollowed == P.unfollowed f))
abbrev joinC (P:Program) (f:FuncId) (fn:Func) (s:ChangeSpec) (c:OpenClaim):Bool:=((c.recurses == P.recurses f)&&(c.named == P.varsNamed f))
abbrev joinD (P:Program) (f:FuncId) (fn:Func) (s:ChangeSpec) (c:OpenClaim):Bool:=((c.maps == (fn.params.toList++s.plain.varTypes P).any (P.mapsRec ·))&&(c.ifaces == (fn.params.toList++s.plain.varTypes P).any (P.ifacesRec ·))&&(c.mapsOut == P.mapsAmong fn.resultTypes.toList)&&(c.loops == (fn.params.toList++s.plain.varTypes P).any (P.loopsFrom ·))&&(c.wideKeys == (fn.params.toList++s.plain.varTypes P++fn.resultTypes.toList).any (P.wideKeysFrom ·))&&s.vars.all (P.varReadable ·)&&fn.resultTypes.all (fun t=>P.readableRec t&&decide (t<P.types.size))&&(c.ifacesOut == fn.resultTypes.toList.any (P.ifacesRec ·))&&(c.loopsOut == fn.resultTypes.toList.any (P.loopsFrom ·))&&(c.plainKeys == P.plainKeys)&&c.shortTexts.isNone&&P.stopsHeard)
abbrev joinE (P:Program) (f:FuncId) (fn:Func) (s:ChangeSpec) (c:OpenClaim):Bool:=P.mayEnter
abbrev joinF (P:Program) (f:FuncId) (fn:Func) (s:ChangeSpec) (c:OpenClaim):Bool:=(c.lifted == P.liftsFinal)
abbrev joinG (P:Program) (f:FuncId) (fn:Func) (s:ChangeSpec) (c:OpenClaim):Bool:=((P.make == some c.make)&&(c.kinds == (if c.domain.isEmpty then [] else fn.params.toList.map fun t=>match P.underlying t with | some (.int k)=>some k | _=>none))&&(c.pinned == c.pinnedBy)&&(c.veiled == (fn.params.toList++s.plain.varTypes P++fn.resultTypes.toList).any (P.veiledRec ·))&&c.veiledFits P fn.params.toList (fn.params.toList++s.plain.varTypes P++fn.resultTypes.toList))
theorem joined_of {P:Program} {f:FuncId} {fn:Func} {s:ChangeSpec} {c:OpenClaim} (h1:joinA P f fn s c=true) (h2:joinB P f fn s c=true) (h2':joinC P f fn s c=true) (h3:joinD P f fn s c=true) (h4:joinE P f fn s c=true) (h5:joinF P f fn s c=true) (h6:joinG P f fn s c=true):joinedFacts P f fn s c=true:=by
 have e:joinedFacts P f fn s c=((c.wf (OpenSpec.ofChange s)&&laidOutB P&&mapsRowed P&&fn.params.all (P.readableRec ·)&&namedTie P c.named s.vars&&(c.stops == [])&&(P.stops == [])&&(c.knobs == [])&&(P.stopKnobs == []))&&(((c.inPlace == P.inPlace f)&&(c.unfollowed == P.unfollowed f))&&(((c.recurses == P.recurses f)&&(c.named == P.varsNamed f))&&(((c.maps == (fn.params.toList++s.plain.varTypes P).any (P.mapsRec ·))&&(c.ifaces == (fn.params.toList++s.plain.varTypes P).any (P.ifacesRec ·))&&(c.mapsOut == P.mapsAmong fn.resultTypes.toList)&&(c.loops == (fn.params.toList++s.plain.varTypes P).any (P.loopsFrom ·))&&(c.wideKeys == (fn.params.toList++s.plain.varTypes P++fn.resultTypes.toList).any (P.wideKeysFrom ·))&&s.vars.all (P.varReadable ·)&&fn.resultTypes.all (fun t=>P.readableRec t&&decide (t<P.types.size))&&(c.ifacesOut == fn.resultTypes.toList.any (P.ifacesRec ·))&&(c.loopsOut == fn.resultTypes.toList.any (P.loopsFrom ·))&&(c.plainKeys == P.plainKeys)&&c.shortTexts.isNone&&P.stopsHeard)&&(P.mayEnter&&((c.lifted == P.liftsFinal)&&((P.make == some c.make)&&(c.kinds == (if c.domain.isEmpty then [] else fn.params.toList.map fun t=>match P.underlying t with | some (.int k)=>some k | _=>none))&&(c.pinned == c.pinnedBy)&&(c.veiled == (fn.params.toList++s.plain.varTypes P++fn.resultTypes.toList).any (P.veiledRec ·))&&c.veiledFits P fn.params.toList (fn.params.toList++s.plain.varTypes P++fn.resultTypes.toList)))))))):=by
  simp only [joinedFacts,Bool.and_assoc];rfl
 dsimp only [joinA,joinB,joinC,joinD,joinE,joinF,joinG] at h1 h2 h2' h3 h4 h5 h6;rw [e,h1,h2,h2',h3,h4,h5,h6];rfl
end Go.Proofs.YtbnlmgncbgaepaaGreat
