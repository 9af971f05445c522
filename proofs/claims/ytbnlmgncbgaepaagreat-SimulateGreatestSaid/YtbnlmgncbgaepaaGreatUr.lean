/- A part of the proof. -/
import Derived.Test.YtbnlmgncbgaepaaGreatUj
import Derived.Test.YtbnlmgncbgaepaaGreatUk
import Derived.Test.YtbnlmgncbgaepaaGreatUl
set_option linter.all false
set_option maxRecDepth 100000
set_option maxHeartbeats 8000000
open Option renaming bind_some → y0
open List renaming getElem?_eq_getElem → y6, all_eq_true → y7, getElem_mem → y8, getElem?_eq_some_iff → yb, mem_cons → yj, mem_of_getElem? → yk, map_cons → yl, mem_cons_self → yn, length_map → yo, mem_cons_of_mem → yq, map_nil → yr, mem_map → yu, getElem_of_mem → yA, mem_append → yB, length_take → yF, getElem?_eq_none → yN, eq_nil_of_length_eq_zero → yQ, map_append → yR
open Bool renaming and_eq_true → ye, false_eq_true → yx
open Int renaming emod_nonneg → yI, emod_lt_of_pos → yP
namespace Go.Proofs.YtbnlmgncbgaepaaGreat
open Go
theorem q74 {l:List Nde} {i:Int} {rc:Bool} {ps:List Prt}:∀ (n:Nat) (m:Mem),m∈q6m l i rc ps n->∃ id p,1<=id/\id<=(n:Int)/\p∈ps/\q7u l i id p=true/\m=memZ l i rc id p
 | 0,m,h=>by simp [q6m] at h
 | n + 1,m,h=>by
  rw [q6m] at h;rcases yB.1 h with h | h
  ·obtain ⟨id,p,h1,h2,h3⟩:=q74 n m h;exact ⟨id,p,h1,by omega,h3⟩
  ·unfold memAt at h;split at h
   ·rename_i p hp;simp only [List.mem_singleton] at h;exact ⟨((n + 1:Nat):Int),p,by omega,by omega,List.mem_of_find?_eq_some hp,List.find?_some hp,h⟩
   ·cases h
theorem init_ok {l:List Nde} (hl:oks l) (t code:Int) (hc:0<=code):(q7J l t code).1.ok/\(q7J l t code).1.i64:=by
 have hx:u8 (ndAt l t).a/\u8 (ndAt l t).b:=by
  unfold ndAt;cases h:l[t.toNat]? with
  | none=>exact ⟨⟨by decide,by decide⟩,⟨by decide,by decide⟩⟩
  | some x =>
   have:=hl.2.2 x (yk h);exact ⟨this.2.1,this.2.2.1⟩
 obtain ⟨⟨a0,a1⟩,⟨b0,b1⟩⟩:=hx;unfold q7J;split
 ·exact ⟨by rw [Vl.ok_def]; simp [Vl.of,Vl.keys,Vl.items,Vl.rest,Vl.s]; decide,by rw [Vl.i64_def]; simp [Vl.of,Vl.keys,Vl.items,Vl.i,i64R]⟩
 ·refine ⟨?_,?_⟩
  ·rw [Vl.ok_def];refine ⟨by simp [Vl.of,Vl.keys],by simp [Vl.of,Vl.items],by simp [Vl.of,Vl.rest],?_,by simp [Vl.of,Vl.keys],by simp [Vl.of,Vl.items]⟩;simp only [Vl.of,Vl.s];split <;> exact (by decide)
  ·rw [Vl.i64_def];refine ⟨?_,by simp [Vl.of,Vl.keys],by simp [Vl.of,Vl.items]⟩;simp only [Vl.of,Vl.i,i64R];split
   ·have hm:0<(ndAt l t).b % 6 + 1:=by omega
    have:=yI code (show (ndAt l t).b % 6 + 1≠0 by omega);have:=yP code hm;simp only [Nde.low];omega
   ·omega
theorem memZ_ok {l:List Nde} (hl:oks l) {i:Int} {rc:Bool} {id:Int} {p:Prt} (hp:p.ok):(memZ l i rc id p).ok/\(memZ l i rc id p).dflt.i64:=by
 have hf:0<=p.flag / 4:=by have:=hp.2.2.1; omega
 obtain ⟨h1,h2⟩:=init_ok hl (tgtZ l i p.ty) (p.flag / 4) hf;have hz:Vl.zero.ok/\Vl.zero.i64:=⟨by rw [Vl.ok_def]; simp [Vl.zero,Vl.keys,Vl.items,Vl.rest,Vl.s]; decide,by rw [Vl.i64_def]; simp [Vl.zero,Vl.keys,Vl.items,Vl.i,i64R]⟩;have hn:(memZ l i rc id p).name.size<=9223372036854775807:=by
  have:=enc_size (97 + id);have h1:(⟨#[109]⟩:ByteArray).size=1:=rfl;simp only [memZ,q9O,ByteArray.size_append];omega
 refine ⟨⟨?_,hn⟩,?_⟩ <;> simp only [memZ] <;> split <;> first | exact h1 | exact h2 | exact hz.1 | exact hz.2
theorem typZ_ok {l:List Nde} (hl:oks l) (i:Nat) (hi:i<l.length):(typZ l (i:Int)).fine/\(typZ l (i:Int)).d64:=by
 have hx:=q3N hl hi;have hm:∀ rc,∀ m∈q3B l (i:Int) rc (ndAt l (i:Int)).parts,m.ok/\m.dflt.i64:=fun rc m h=>by
  obtain ⟨id,p,_,_,h1,_,rfl⟩:=q74 12 m h;exact memZ_ok hl (hx.2.2.2.2.2 p h1)
 have ja:∀ rc,(q3B l (i:Int) rc (ndAt l (i:Int)).parts).length<=12:=fun rc=>q7A l _ rc _ 12
 have hs:(q6T (ndAt l (i:Int)).a).length<=6:=by
  have:=qb6 (ndAt l (i:Int)).a;simp only [q6T,yo];omega
 have base:∀ k nm,(Typ.of k nm).fine/\(Typ.of k nm).d64:=fun k nm=>⟨⟨⟨by simp [Typ.of],by simp [Typ.of],by simp [Typ.of]⟩,by simp [Typ.of],by simp [Typ.of]⟩,by simp [Typ.d64,Typ.of]⟩
 have ua:∀ t:Typ,t.syms.length<=6->t.mems.length<=12->(∀ m∈t.mems,m.ok/\m.dflt.i64)->t.fine/\t.d64:=fun t h1 h2 h3=>⟨⟨⟨by omega,by omega,fun m hm=>(h3 m hm).1⟩,by omega,by omega⟩,fun m hm=>(h3 m hm).2⟩
 unfold typZ;simp only;split
 ·exact base _ _
 ·exact ua _ (by simp [Typ.of]) (by simp [Typ.of]) (by simp [Typ.of])
 ·exact ua _ (by simp [Typ.of]) (by simp [Typ.of]) (by simp [Typ.of])
 ·exact ua _ hs (by simp [Typ.of]) (by simp [Typ.of])
 ·exact ua _ (by simp [Typ.of]) (ja _) (hm _)
 ·split
  ·exact base _ _
  ·exact ua _ (by simp [Typ.of]) (ja _) (hm _)
 ·exact ua _ (by simp [Typ.of]) (by simp [Typ.of]) (by simp [Typ.of])
 ·split <;> exact ua _ (by simp [Typ.of]) (by simp [Typ.of]) (by simp [Typ.of])
 ·exact ua _ (by simp [Typ.of]) (by simp [Typ.of]) (by simp [Typ.of])
theorem rwT_ok {n:Nat} {a b:Typ} (h:rwT n a b) (ha:a.fine/\a.d64):b.fine/\b.d64:=by
 obtain ⟨bs,⟨hl,hm⟩,rfl⟩:=h;obtain ⟨⟨⟨h1,h2,h3⟩,h4,h5⟩,h6⟩:=ha;have hz:Vl.zero.ok/\Vl.zero.i64:=⟨by rw [Vl.ok_def]; simp [Vl.zero,Vl.keys,Vl.items,Vl.rest,Vl.s]; decide,by rw [Vl.i64_def]; simp [Vl.zero,Vl.keys,Vl.items,Vl.i,i64R]⟩;have hb:∀ m∈bs,m.ok/\m.dflt.i64:=fun m oa=>by
  obtain ⟨i,hi,rfl⟩:=yA oa;have fC:i<a.mems.length:=by omega
  obtain ⟨g1,g2,g3,g4⟩:=hm i _ _ (y6 fC) (y6 hi);have cM:=h3 _ (y8 fC);have wP:=h6 _ (y8 fC);rcases g4 with g4 | ⟨_,_,_,g4⟩
  ·rw [g4]; exact ⟨cM,wP⟩
  ·exact ⟨⟨by rw [g4]; exact hz.1,by rw [g2]; exact cM.2⟩,by rw [g4]; exact hz.2⟩
 exact ⟨⟨⟨h1,by dsimp only; omega,fun m oa=>(hb m oa).1⟩,h4,by dsimp only; omega⟩,fun m oa=>(hb m oa).2⟩
theorem rwS_ok {l:List Nde} (hl:oks l) {T:List Typ} (h:rwS l.length (q06 l) T):(⟨false,T⟩:Sch).fine/\(⟨false,T⟩:Sch).d64:=by
 obtain ⟨ja,h⟩:=h;have pM:=hl.2.1;have aQ:(q06 l).length=l.length:=by simp [q06]
 have hT:∀ t∈T,t.fine/\t.d64:=fun t ht=>by
  obtain ⟨i,hi,rfl⟩:=yA ht;have dc:i<l.length:=by omega
  have:=h i (typZ l (i:Int)) _ (by simp [q06,dc]) (y6 hi);exact rwT_ok this (typZ_ok hl i dc)
 exact ⟨⟨by dsimp only; omega,fun t ht=>(hT t ht).1⟩,fun t ht=>(hT t ht).2⟩
theorem mName_ok:∀ d:Fin 13,q3T (q9O (d.val:Int))=true:=by decide +kernel
theorem mName_inj:∀ d e:Fin 13,q9O (d.val:Int)=q9O (e.val:Int)->d=e:=by decide +kernel
theorem tName_ok:∀ d:Fin 5,q3T (q7Q (d.val:Int))=true:=by decide +kernel
theorem tName_inj:∀ d e:Fin 5,q7Q (d.val:Int)=q7Q (e.val:Int)->d=e:=by decide +kernel
theorem symsZ_ok:∀ a:Fin 256,q8z (q6T (a.val:Int))=true:=by decide +kernel
theorem mName_ok' {d:Int} (h:0<=d/\d<=12):q3T (q9O d)=true:=by
 have:=mName_ok ⟨d.toNat,by omega⟩
 rwa [show ((d.toNat:Nat):Int)=d from by omega] at this
theorem mName_inj' {d e:Int} (h:0<=d/\d<=12) (h':0<=e/\e<=12) (he:q9O d=q9O e):d=e:=by
 have:=mName_inj ⟨d.toNat,by omega⟩ ⟨e.toNat,by omega⟩;simp only [show ((d.toNat:Nat):Int)=d from by omega,show ((e.toNat:Nat):Int)=e from by omega] at this;have:=congrArg Fin.val (this he);simp only at this;omega
theorem ents_asc:∀ (L:List Int) (b:Int) (seen:List ByteArray),0<=b->(∀ d∈L,b<d/\d<=12)->L.Pairwise (·<·)->(∀ s∈seen,∃ j,0<=j/\j<=b/\s=q9O j)->q20 b seen (L.map fun d=>(d,q9O d))=true
 | [],_,_,_,_,_,_=>rfl
 | d :: r,b,seen,hb,hd,hp,hs=>by
  have h1:=hd d yn;rw [List.pairwise_cons] at hp;simp only [yl,q20,ye,Bool.not_eq_true'];refine ⟨⟨⟨?_,?_⟩,mName_ok' (by omega)⟩,ents_asc r d (seen++[q9O d]) (by omega) (fun e he=>⟨hp.1 e he,(hd e (yq _ he)).2⟩) hp.2 fun s ii=>?_⟩
  ·simp only [idOk,ye,decide_eq_true_eq];omega
  ·refine qb4 fun jd=>?_
   obtain ⟨j,j0,j1,hj⟩:=hs _ jd;have:=mName_inj' (by omega) (by omega) hj;omega
  ·rcases yB.1 ii with ii | ii
   ·obtain ⟨j,j0,j1,hj⟩:=hs s ii;exact ⟨j,j0,by omega,hj⟩
   ·rw [List.mem_singleton] at ii;exact ⟨d,by omega,by omega,ii⟩
theorem parts_ents (l:List Nde) (i:Int) (rc:Bool) (ps:List Prt):∀ n:Nat,∃ L:List Int,(q6m l i rc ps n).map memE=L.map (fun d=>(d,q9O d))/\L.Pairwise (·<·)/\∀ d∈L,1<=d/\d<=(n:Int)
 | 0=>⟨[],rfl,List.Pairwise.nil,fun d h=>by cases h⟩
 | n + 1=>by
  obtain ⟨L,h1,h2,h3⟩:=parts_ents l i rc ps n;rw [q6m,yR,h1];unfold memAt;split
  ·refine ⟨L++[((n + 1:Nat):Int)],by simp [memE,memZ],?_,fun d hd=>?_⟩
   ·rw [List.pairwise_append];refine ⟨h2,List.pairwise_singleton _ _,fun a ha b hb=>?_⟩;rw [List.mem_singleton] at hb;have:=h3 a ha;omega
   ·rcases yB.1 hd with hd | hd
    ·have:=h3 d hd; omega
    ·rw [List.mem_singleton] at hd; omega
  ·exact ⟨L,by simp,h2,fun d hd=>by have:=h3 d hd; omega⟩
theorem rwL_ents {n:Nat} {xs bs:List Mem} (h:rwL n xs bs):bs.map memE=xs.map memE:=by
 refine List.ext_getElem (by simp [h.1]) fun i h1 h2=>?_
 simp only [yo] at h1 h2;have:=h.2 i xs[i] bs[i] (y6 h2) (y6 h1);simp only [List.getElem_map,memE,this.1,this.2.1]
theorem init_no {l:List Nde} {t c:Int} (h:(q7J l t c).2=false):(q7J l t c).1=Vl.zero:=by
 unfold q7J at h ⊢;split at h
 ·rename_i hc;rw [if_pos hc];rfl
 ·cases h
theorem memZ_good (l:List Nde) (i:Int) (rc:Bool) (id:Int) (p:Prt):q0V rc (memZ l i rc id p)=true:=by
 by_cases h2:2<=p.flag % 4
 ·have h1:¬ p.flag % 4=1:=by omega
  cases rc with
  | false=>simp [q0V,memZ,Vl.same_refl]
  | true =>
   cases h3:(q7J l (tgtZ l i p.ty) (p.flag / 4)).2 with
   | false=>simp [q0V,memZ,h1,h2,h3,init_no h3,Vl.same_refl]
   | true=>simp [q0V,memZ,h1,h2,h3]
 ·cases rc <;> simp [q0V,memZ,h2,Vl.same_refl]
theorem rwM_good {n:Nat} {rc:Bool} {a b:Mem} (h:rwM n a b) (ha:q0V rc a=true):q0V rc b=true:=by
 obtain ⟨h1,h2,h3,h4⟩:=h;rcases h4 with rfl | ⟨_,_,h5,h6⟩
 ·exact ha
 ·simp only [q0V,h3,h5,h6,Vl.same_refl] at ha ⊢;cases rc <;> cases hc:a.crit <;> simp [hc] at ha ⊢
theorem mems_good {l:List Nde} {i:Int} {rc:Bool} {ps:List Prt} {n:Nat} {bs:List Mem} (h:rwL n (q3B l i rc ps) bs) (na:rc=true\/bs≠[]):q6k rc bs=true:=by
 obtain ⟨L,h1,h2,h3⟩:=parts_ents l i rc ps 12;have ja:bs.length<=12:=by rw [<- h.1]; exact q7A l i rc ps 12
 have uD:q20 0 [] (bs.map memE)=true:=by
  rw [rwL_ents h,show (q3B l i rc ps).map memE=_ from h1];exact ents_asc L 0 [] (by omega) (fun d hd=>by have:=h3 d hd; omega) h2 (fun s hs=>by cases hs)
 have ua:bs.all (q0V rc)=true:=y7.2 fun b hb=>by
  obtain ⟨j,hj,rfl⟩:=yA hb;have dz:j<(q3B l i rc ps).length:=by rw [h.1]; exact hj
  have hm:=h.2 j _ _ (y6 dz) (y6 hj);obtain ⟨id,p,_,_,_,_,he⟩:=q74 12 _ (y8 dz);refine rwM_good hm ?_;rw [he];exact memZ_good l i rc id p
 have ab:rc=true\/0<bs.length:=na.imp id fun h=>List.length_pos_iff.2 h
 simp only [q6k,ua,uD,Bool.true_and,ye,Bool.or_eq_true,decide_eq_true_eq];exact ⟨ab,by omega⟩
theorem key_neg {l:List Nde} {code:Int}:∀ n k,q4e l code n k<0->(∀ m,0<=(code + (m:Int)) % l.length)->∀ m:Nat,k<=m->m<k + n->isKey (kdAt l ((code + m) % l.length))=false
 | 0,k,_,_,m,h1,h2=>by omega
 | n + 1,k,h,hp,m,h1,h2=>by
  simp only [q4e] at h;split at h
  ·have:=hp k; omega
  ·rename_i hk;by_cases e:m=k
   ·subst e;simpa using hk
   ·exact key_neg n (k + 1) h hp m (by omega) (by omega)
theorem key_is {l:List Nde} {code:Int}:∀ n k,0<=q4e l code n k->isKey (kdAt l (q4e l code n k))=true
 | 0,k,h=>by simp [q4e] at h
 | n + 1,k,h=>by
  simp only [q4e] at h ⊢;split
  ·assumption
  ·rename_i hk;rw [if_neg hk] at h;exact key_is n (k + 1) h
theorem keyZ_neg {l:List Nde} (hl:oks l) {c:Int} (hc:0<=c) (h:keyZ l c<0) {z:Int} (h0:0<=z) (h1:z<l.length):isKey (kdAt l z)=false:=by
 have hp:=hl.1;have hn:(l.length:Int)≠0:=by omega
 have ab:∀ m,0<=(c + (m:Int)) % l.length:=fun m=>yI _ hn
 have:=key_neg (l:=l) (code:=c) l.length 0 h ab ((z - c) % l.length).toNat (by omega) (by
  have:=yP (z - c) (b:=(l.length:Int)) (by omega);omega)
 have h2:=yI (z - c) hn;rw [show (((z - c) % l.length).toNat:Int)=(z - c) % l.length from by omega,Int.add_emod_emod] at this;rw [show c + (z - c)=z from by omega,Int.emod_eq_of_lt h0 h1] at this;exact this
theorem keyZ_some {l:List Nde} (hl:oks l) {c d:Int} (hc:0<=c) (hd:0<=d) (h:keyZ l c<0):keyZ l d<0:=by
 by_cases h':keyZ l d<0
 ·exact h'
 ·have h1:=key_is (l:=l) (code:=d) l.length 0 (by simpa [keyZ] using h');have h2:=q8H hl d l.length 0;have h3:=keyZ_neg hl hc h (z:=keyZ l d) (by omega) (by unfold keyZ; omega);unfold keyZ at h3;rw [h3] at h1;cases h1
structure TypD (l:List Nde) (i:Nat) (b:Typ):Prop where
 good:q0W b=true
 nm:b.named=true->b.name=q7Q (i:Int)
 uses:∀ u∈b.usesL,0<=u/\u<l.length
 key:b.kind=8->isKey (kdAt l b.key)=true
theorem q7D {n:Nat} {bs:List Mem} (h:rwL n [] bs):bs=[]:=yQ h.1.symm
theorem mem_uses {l:List Nde} (hl:oks l) {i:Nat} (hi:i<l.length) {rc:Bool} {ps:List Prt} {bs:List Mem} (h:rwL l.length (q3B l (i:Int) rc ps) bs):∀ u∈bs.map Mem.ty,0<=u/\u<l.length:=fun u hu=>by
 obtain ⟨b,hb,rfl⟩:=yu.1 hu;obtain ⟨j,hj,rfl⟩:=yA hb;have dz:j<(q3B l (i:Int) rc ps).length:=by rw [h.1]; exact hj
 have hm:=h.2 j _ _ (y6 dz) (y6 hj);obtain ⟨id,p,_,_,_,hp,he⟩:=q74 12 _ (y8 dz);rcases hm.2.2.2 with h4 | ⟨h4,h5,_⟩
 ·rw [h4,he];simp only [q7u,decide_eq_true_eq] at hp;exact ⟨hp.2,(q9y hl (i:Int) p.ty (by omega)).2⟩
 ·exact ⟨h4,h5⟩
theorem typ_d {l:List Nde} (hl:oks l) {i:Nat} (hi:i<l.length) {b:Typ} (h:rwT l.length (typZ l (i:Int)) b):TypD l i b:=by
 obtain ⟨bs,ze,rfl⟩:=h;have hx:=q3N hl hi;obtain ⟨xk,xa,xb,xc,_⟩:=hx0 _ hx;have pM:=hl.2.1;have hn:(l.length:Int)≠0:=by omega
 have aw:=kind_rng hx;have jb:q3T (q7Q (i:Int))=true:=tName_ok ⟨i,by omega⟩;have db:q8z (q6T (ndAt l (i:Int)).a)=true:=by
  have:=symsZ_ok ⟨(ndAt l (i:Int)).a.toNat,by have:=xa.2; have:=xa.1; omega⟩
  rwa [show (((ndAt l (i:Int)).a.toNat:Nat):Int)=(ndAt l (i:Int)).a from by have:=xa.1; omega] at this
 have dp:0<=(ndAt l (i:Int)).c % l.length/\(ndAt l (i:Int)).c % l.length<l.length:=⟨yI _ hn,yP _ (by omega)⟩;unfold typZ at ze ⊢;generalize ndAt l (i:Int)=x at *
 by_cases k1:x.kind=1
 ·simp only [k1] at ze ⊢;obtain rfl:=q7D ze;exact ⟨by simp [q0W,q7b,Typ.left,Typ.same,q1R,Typ.of,q0I],fun h=>by simp [Typ.named,Typ.of] at h,fun u hu=>by simp [Typ.usesL,Typ.of] at hu,fun h=>by simp [Typ.of] at h⟩
 by_cases k2:x.kind=2
 ·simp only [k2] at ze ⊢;obtain rfl:=q7D ze;have eR:x.low<=x.high:=by
   simp only [Nde.high];have:=yI x.b (show (6:Int)≠0 by decide);omega
  exact ⟨by simp [q0W,q7b,Typ.left,Typ.same,q1R,Typ.of,q0I,eR],fun h=>by simp [Typ.named,Typ.of] at h,fun u hu=>by simp [Typ.usesL,Typ.of] at hu,fun h=>by simp [Typ.of] at h⟩
 by_cases k3:x.kind=3
 ·simp only [k3] at ze ⊢;obtain rfl:=q7D ze;exact ⟨by simp [q0W,q7b,Typ.left,Typ.same,q1R,Typ.of,q0I]; omega,fun h=>by simp [Typ.named,Typ.of] at h,fun u hu=>by simp [Typ.usesL,Typ.of] at hu,fun h=>by simp [Typ.of] at h⟩
 by_cases k4:x.kind=4
 ·simp only [k4] at ze ⊢;obtain rfl:=q7D ze;exact ⟨by simp [q0W,q7b,Typ.left,Typ.same,q1R,Typ.of,q0I,jb,db],fun h=>by simp [Typ.of],fun u hu=>by simp [Typ.usesL,Typ.of] at hu,fun h=>by simp [Typ.of] at h⟩
 by_cases k5:x.kind=5
 ·simp only [k5] at ze ⊢;have hg:=mems_good ze (.inl rfl);have hu:=mem_uses hl hi ze;exact ⟨by simp [q0W,q7b,Typ.left,Typ.same,q1R,Typ.of,q0I,jb,hg],fun h=>by simp [Typ.of],fun u h=>hu u (by simpa [Typ.usesL,Typ.of] using h),fun h=>by simp [Typ.of] at h⟩
 by_cases k6:x.kind=6
 ·simp only [k6] at ze ⊢;by_cases he:(q3B l (i:Int) false x.parts).isEmpty=true
  ·simp only [he,if_true] at ze ⊢;obtain rfl:=q7D ze;exact ⟨by simp [q0W,q7b,Typ.left,Typ.same,q1R,Typ.of,q0I,jb,q6k,q20],fun h=>by simp [Typ.of],fun u hu=>by simp [Typ.usesL,Typ.of] at hu,fun h=>by simp [Typ.of] at h⟩
  ·simp only [he,if_false,yx] at ze ⊢;have na:bs≠[]:=fun e=>by
    rw [e] at ze;have:=ze.1;simp only [List.length_nil] at this;rw [yQ this] at he;simp at he
   have hg:=mems_good ze (.inr na);have hu:=mem_uses hl hi ze;exact ⟨by simp [q0W,q7b,Typ.left,Typ.same,q1R,Typ.of,q0I,jb,hg],fun h=>by simp [Typ.of],fun u h=>hu u (by simpa [Typ.usesL,Typ.of] using h),fun h=>by simp [Typ.of] at h⟩
 by_cases k7:x.kind=7
 ·simp only [k7] at ze ⊢;obtain rfl:=q7D ze;exact ⟨by simp [q0W,q7b,Typ.left,Typ.same,q1R,Typ.of,q0I]; omega,fun h=>by simp [Typ.named,Typ.of] at h,fun u hu=>by simp [Typ.usesL,Typ.of] at hu; rw [hu]; exact dp,fun h=>by simp [Typ.of] at h⟩
 by_cases k8:x.kind=8
 ·simp only [k8] at ze ⊢;by_cases hc:keyZ l x.b<0
  ·simp only [if_pos hc] at ze ⊢;obtain rfl:=q7D ze;exact ⟨by simp [q0W,q7b,Typ.left,Typ.same,q1R,Typ.of,q0I]; omega,fun h=>by simp [Typ.named,Typ.of] at h,fun u hu=>by simp [Typ.usesL,Typ.of] at hu; rw [hu]; exact dp,fun h=>by simp [Typ.of] at h⟩
  ·simp only [if_neg hc] at ze ⊢;obtain rfl:=q7D ze;have aw:=q8H hl x.b l.length 0;refine ⟨by simp [q0W,q7b,Typ.left,Typ.same,q1R,Typ.of,q0I]; omega,fun h=>by simp [Typ.named,Typ.of] at h,fun u hu=>?_,fun h=>key_is l.length 0 (by simpa [keyZ] using hc)⟩;simp [Typ.usesL,Typ.of] at hu;rcases hu with rfl | rfl
   ·exact ⟨by omega,aw.2⟩
   ·exact dp
 have k9:x.kind=9:=by omega
 simp only [k9] at ze ⊢;obtain rfl:=q7D ze;exact ⟨by simp [q0W,q7b,Typ.left,Typ.same,q1R,Typ.of,q0I],fun h=>by simp [Typ.named,Typ.of] at h,fun u hu=>by simp [Typ.usesL,Typ.of] at hu; rw [hu]; exact dp,fun h=>by simp [Typ.of] at h⟩
theorem kdAt_nd (l:List Nde) {j:Nat} (hj:j<l.length):kdAt l (j:Int)=(ndAt l (j:Int)).kind:=by
 simp [kdAt,ndAt,y6 hj]
theorem q9A (l:List Nde) {j:Nat} (hj:j<l.length):(typZ l (j:Int)).kind=(if kdAt l (j:Int)=6/\(q3B l (j:Int) false (ndAt l (j:Int)).parts).isEmpty=true then 5 else if kdAt l (j:Int)=8/\keyZ l (ndAt l (j:Int)).b<0 then 7 else if 1<=kdAt l (j:Int)/\kdAt l (j:Int)<=8 then kdAt l (j:Int) else 9):=by
 rw [kdAt_nd l hj];unfold typZ;generalize ndAt l (j:Int)=x;simp only;split
 ·rename_i h; simp [h,Typ.of]
 ·rename_i h; simp [h,Typ.of]
 ·rename_i h; simp [h,Typ.of]
 ·rename_i h; simp [h,Typ.of]
 ·rename_i h; simp [h,Typ.of]
 ·rename_i h;split
  ·rename_i h'; simp [h,h',Typ.of]
  ·rename_i h'; simp [h,h',Typ.of]
 ·rename_i h; simp [h,Typ.of]
 ·rename_i h;split
  ·rename_i h'; simp [h,h',Typ.of]
  ·rename_i h'; simp [h,h',Typ.of]
 ·rename_i h1 h2 h3 h4 h5 h6 h7 h8;have e6:¬ x.kind=6:=h6;have e8:¬ x.kind=8:=h8;have hr:¬ (1<=x.kind/\x.kind<=8):=fun ⟨a,b⟩=>by
   have q1:¬ x.kind=1:=h1;have q2:¬ x.kind=2:=h2;have q3:¬ x.kind=3:=h3;have q4:¬ x.kind=4:=h4;have q5:¬ x.kind=5:=h5;have q7:¬ x.kind=7:=h7;omega
  simp [e6,e8,hr,Typ.of]
theorem rwS_len {n:Nat} {l:List Nde} {T:List Typ} (h:rwS n (q06 l) T):T.length=l.length:=by
 have:=h.1;simp [q06] at this;exact this.symm
theorem qa9 {l:List Nde} {T:List Typ} (h:rwS l.length (q06 l) T) {i:Nat} (hi:i<T.length):rwT l.length (typZ l (i:Int)) T[i]:=by
 have dc:i<l.length:=by rw [<- rwS_len h]; exact hi
 exact h.2 i _ _ (by simp [q06,dc]) (y6 hi)
theorem rwT_kind {n:Nat} {a b:Typ} (h:rwT n a b):b.kind=a.kind:=by
 obtain ⟨bs,_,rfl⟩:=h;rfl
theorem qav {l:List Typ} (h:∀ i,(hi:i<l.length)->q21 l i l[i]=0):∀ n i,q1Q l n i=0
 | 0,i=>rfl
 | n + 1,i=>by
  rw [q1Q];by_cases hi:i<l.length
  ·rw [y6 hi];simp only [h i hi,if_true];exact qav h n (i + 1)
  ·rw [yN (by omega)]
theorem rwS_valid {l:List Nde} (hl:oks l) {T:List Typ} (h:rwS l.length (q06 l) T):valid T=0:=by
 have pM:=hl.2.1;have ja:=rwS_len h;unfold valid;rw [if_neg (by omega)];refine qav (fun i hi=>?_) _ _;have hd:∀ j,(hj:j<T.length)->TypD l j T[j]:=fun j hj=>typ_d hl (by omega) (qa9 h hj)
 obtain ⟨hg,jb,hu,hk⟩:=hd i hi;unfold q21;rw [if_neg (by rw [hg]; decide)];rw [if_neg]
 ·rw [if_neg]
  ·rw [if_neg];rintro ⟨h8,hn⟩;have bc:=hk h8;have huk:=hu T[i].key (by simp [Typ.usesL,h8]);have bk:T[i].key.toNat<T.length:=by omega
   apply hn;unfold q6h;rw [y6 bk];simp only;rw [rwT_kind (qa9 h bk),q9A l (by omega)];rw [show ((T[i].key.toNat:Nat):Int)=T[i].key from by omega];simp only [isKey,decide_eq_true_eq] at bc;rw [if_neg (by omega),if_neg (by omega),if_pos (by omega)];exact bc
  ·intro oq;obtain ⟨u,oa,ho⟩:=List.any_eq_true.1 oq;have:=hu u oa;simp only [q0P,Bool.or_eq_true,decide_eq_true_eq] at ho;omega
 ·rintro ⟨hn,oa⟩;rw [yu] at oa;obtain ⟨b,hb,he⟩:=oa;obtain ⟨j,hj,rfl⟩:=yA hb;rw [yF] at hj;rw [List.getElem_take] at he;have dH:j<T.length:=by omega
  obtain ⟨dE,bK,_,_⟩:=hd j dH;rw [jb hn] at he;have mD:T[j].named=true:=by
   cases hc:T[j].named with
   | true=>rfl
   | false =>
    have dc:=tName_ok ⟨i,by omega⟩;simp only at dc;rw [<- he] at dc;have dd:T[j].name=⟨#[]⟩:=by
     unfold q0W at dE;simp only [Typ.named,Bool.or_eq_false_iff,decide_eq_false_iff_not] at hc;simp only [ye,decide_eq_true_eq] at dE;have hs:=dE.2.2;unfold Typ.left at hs;obtain ⟨⟨c4,c5⟩,c6⟩:=hc;simp only [c4,c5,c6,if_false] at hs;split at hs
     ·simp only [Typ.same,q1R,ye,decide_eq_true_eq] at hs; exact of_decide_eq_true hs.1.1.1.1.1.1.1.1.2
     ·split at hs
      ·simp only [Typ.same,q1R,ye,decide_eq_true_eq] at hs; exact of_decide_eq_true hs.1.1.1.1.1.1.1.1.2
      ·split at hs
       ·simp only [Typ.same,q1R,ye,decide_eq_true_eq] at hs; exact of_decide_eq_true hs.1.1.1.1.1.1.1.1.2
       ·split at hs
        ·simp only [Typ.same,q1R,ye,decide_eq_true_eq] at hs; exact of_decide_eq_true hs.1.1.1.1.1.1.1.1.2
        ·split at hs
         ·simp only [Typ.same,q1R,ye,decide_eq_true_eq] at hs; exact of_decide_eq_true hs.1.1.1.1.1.1.1.1.2
         ·simp only [Typ.same,q1R,ye,decide_eq_true_eq] at hs; exact of_decide_eq_true hs.1.1.1.1.1.1.1.1.2
    rw [dd] at dc;exact absurd dc (by decide)
  have:=tName_inj ⟨j,by omega⟩ ⟨i,by omega⟩ (by simp only; rw [<- bK mD,he]);have:=congrArg Fin.val this;simp only at this;omega
theorem idxI_mem {α:Type} (p:α->Bool):∀ l:List α,(∃ x∈l,p x=true)->0<=idxI p l
 | [],h=>by obtain ⟨x,hx,_⟩:=h; cases hx
 | x :: r,h=>by
  have hg:=q33 p r;unfold idxI;by_cases hp:p x=true
  ·rw [if_pos hp]; exact Int.le_refl 0
  ·rw [if_neg hp];have:0<=idxI p r:=idxI_mem p r (by
    obtain ⟨y,hy,gN⟩:=h;rcases yj.1 hy with rfl | hy
    ·exact absurd gN hp
    ·exact ⟨y,hy,gN⟩)
   rw [if_neg (by omega)];omega
theorem idAt_mem (a c:Int) (hc:0<=c):0<=q5E (q6T a) (idAt a c):=by
 have ja:=qb6 a;have hn:((idsZ a).length:Int)≠0:=by omega
 have h0:=yI c hn;have h1:=yP c (b:=((idsZ a).length:Int)) (by omega);have da:(c % (idsZ a).length).toNat<(idsZ a).length:=by omega
 refine idxI_mem _ _ ⟨⟨idAt a c,sName (idAt a c)⟩,?_,by simp⟩;unfold q6T;refine yu.2 ⟨idAt a c,?_,rfl⟩;unfold idAt;rw [y6 da];exact y8 da
theorem init_plain {l:List Nde} (hl:oks l) {T:List Typ} (h:rwS l.length (q06 l) T) {t c:Int} (ht:0<=t/\t<l.length) (hc:0<=c) (hi:(q7J l t c).2=true):q6n T t (q7J l t c).1=true:=by
 have ja:=rwS_len h;have dH:t.toNat<T.length:=by omega
 have zg:t.toNat<l.length:=by omega
 have ze:=qa9 h dH;have wo:((t.toNat:Nat):Int)=t:=by omega
 have zb:=q9A l zg;rw [wo] at ze zb;have hx:=q3N hl zg;rw [wo] at hx;have aw:=kdAt_rng hl ht.1 ht.2;have oh:kdAt l t=(ndAt l t).kind:=by rw [<- wo]; exact kdAt_nd l zg
 obtain ⟨xk,xa,xb,xc,_⟩:=hx0 _ hx;unfold q6n;unfold fitN;have ho:q0P T.length t=false:=by simp [q0P]; omega
 rw [ho,y6 dH];generalize hf:fitN T _=f;clear hf;have hk:=rwT_kind ze;rw [zb] at hk;unfold q7J at hi ⊢;by_cases um:kdAt l t=5\/kdAt l t=6
 ·rw [if_pos um] at hi; cases hi
 rw [if_neg um];have e6:¬ (kdAt l t=6/\(q3B l t false (ndAt l t).parts).isEmpty=true):=fun e=>um (.inr e.1)
 rw [if_neg e6] at hk;obtain ⟨bs,lx,hb⟩:=ze;rw [hb] at hk ⊢;simp only [Bool.not_false,Bool.true_and];have jd:inK l t=(typZ l t).kind:=by
  unfold inK;by_cases h8:kdAt l t=8
  ·by_cases hn:keyZ l 0<0
   ·have ik:=keyZ_some hl (by omega) xb.1 hn;rw [if_pos ⟨h8,hn⟩];rw [if_pos ⟨h8,ik⟩] at hk;exact hk.symm
   ·have ik:¬ keyZ l (ndAt l t).b<0:=fun q=>hn (keyZ_some hl xb.1 (by omega) q)
    rw [if_neg (fun q=>hn q.2)];rw [if_neg (fun q=>ik q.2),if_pos (by omega)] at hk;exact hk.symm
  ·rw [if_neg (fun q=>h8 q.1)];rw [if_neg (fun q=>h8 q.1)] at hk;by_cases h9:kdAt l t<=8
   ·rw [if_pos ⟨by omega,h9⟩] at hk; exact hk.symm
   ·rw [if_neg (fun q=>h9 q.2)] at hk;show kdAt l t=_;have:(typZ l t).kind=9:=hk;omega
 rw [jd];have nS:∀ (k:Int) (b:Bool) (i:Int) (s:ByteArray) (d:Int),(k=1\/b=false)->(k=2\/i=0)->(k=3\/s=⟨#[]⟩)->(k=4\/k=6\/d=0)->q3K (Vl.of k b i s d)=true:=fun k b i s d h1 h2 h3 h4=>by
  simp only [q3K,Vl.of,Vl.kind,Vl.b,Vl.i,Vl.s,Vl.id,Vl.keys,Vl.items,Vl.rest,List.isEmpty_nil,Bool.or_true,Bool.and_true,ye,Bool.or_eq_true,decide_eq_true_eq,Bool.not_eq_true',or_assoc];exact ⟨h1.imp (fun h=>decide_eq_true h) id,h2.imp (fun h=>decide_eq_true h) (fun h=>decide_eq_true h),h3.imp (fun h=>decide_eq_true h) (fun h=>decide_eq_true h),h4.imp (fun h=>decide_eq_true h) (Or.imp (fun h=>decide_eq_true h) (fun h=>decide_eq_true h))⟩
 by_cases k1:kdAt l t=1
 ·have hz:(typZ l t).kind=1:=by simp [typZ,<- oh,k1,Typ.of]
  rw [hz];simp [Vl.of,Vl.kind,fitK,q3K,Vl.b,Vl.i,Vl.s,Vl.id,Vl.keys,Vl.items,Vl.rest,k1]
 by_cases k2:kdAt l t=2
 ·have hz:(typZ l t).kind=2:=by simp [typZ,<- oh,k2,Typ.of]
  have kE:(typZ l t).low=(ndAt l t).low:=by simp [typZ,<- oh,k2,Typ.of]
  have tt:(typZ l t).high=(ndAt l t).high:=by simp [typZ,<- oh,k2,Typ.of]
  rw [hz,kE,tt];have h1:=yI c (show (ndAt l t).b % 6 + 1≠0 by have:=xb.1; omega);have h2:=yP c (show 0<(ndAt l t).b % 6 + 1 by have:=xb.1; omega);have h3:(ndAt l t).low<=(ndAt l t).low + c % ((ndAt l t).b % 6 + 1):=by omega
  have h4:(ndAt l t).low + c % ((ndAt l t).b % 6 + 1)<=(ndAt l t).high:=by simp only [Nde.high]; omega
  simp [Vl.of,Vl.kind,fitK,q3K,Vl.b,Vl.i,Vl.s,Vl.id,Vl.keys,Vl.items,Vl.rest,k2,h3,h4,h1]
 by_cases k3:kdAt l t=3
 ·have hz:(typZ l t).kind=3:=by simp [typZ,<- oh,k3,Typ.of]
  have iw:(typZ l t).max=(ndAt l t).a % 4:=by simp [typZ,<- oh,k3,Typ.of]
  have h0:0<=(ndAt l t).a % 4:=by omega
  have pR:(⟨#[]⟩:ByteArray).size=0:=rfl;have pr:(⟨#[97]⟩:ByteArray).size=1:=rfl;rw [hz,iw];by_cases hq:0<(ndAt l t).a % 4/\c % 2=1
  ·have h1:1<=(ndAt l t).a % 4:=by omega
   simp [Vl.of,Vl.kind,fitK,q3K,Vl.b,Vl.i,Vl.s,Vl.id,Vl.keys,Vl.items,Vl.rest,k3,hq,pr,h1]
  ·simp [Vl.of,Vl.kind,fitK,q3K,Vl.b,Vl.i,Vl.s,Vl.id,Vl.keys,Vl.items,Vl.rest,k3,hq,pR,h0]
 by_cases k4:kdAt l t=4
 ·have hz:(typZ l t).kind=4:=by simp [typZ,<- oh,k4,Typ.of]
  have db:(typZ l t).syms=q6T (ndAt l t).a:=by simp [typZ,<- oh,k4,Typ.of]
  have hm:=idAt_mem (ndAt l t).a c hc;rw [hz,db];simp [Vl.of,Vl.kind,fitK,q3K,Vl.b,Vl.i,Vl.s,Vl.id,Vl.keys,Vl.items,Vl.rest,k4,hm]
 have hz:7<=(typZ l t).kind/\(typZ l t).kind<=9:=by
  rw [zb,if_neg e6];split
  ·omega
  ·split <;> omega
 have iw:(typZ l t).kind<=8->0<=(typZ l t).max:=fun h8=>by
  by_cases k7:kdAt l t=7
  ·have:(typZ l t).max=(ndAt l t).a % 4:=by simp [typZ,<- oh,k7,Typ.of]
   omega
  by_cases k8:kdAt l t=8
  ·by_cases hc:keyZ l (ndAt l t).b<0
   ·have:(typZ l t).max=(ndAt l t).a % 4:=by simp [typZ,<- oh,k8,hc,Typ.of]
    omega
   ·have:(typZ l t).max=(ndAt l t).a % 4:=by simp [typZ,<- oh,k8,hc,Typ.of]
    omega
  have k9:kdAt l t=9:=by omega
  have:(typZ l t).kind=9:=by simp [typZ,<- oh,k9,Typ.of]
  omega
 generalize (typZ l t).kind=kk at *
 have q1:¬ kk=1:=by omega
 have q2:¬ kk=2:=by omega
 have q3:¬ kk=3:=by omega
 have q4:¬ kk=4:=by omega
 have q5:¬ kk=5:=by omega
 have q6:¬ kk=6:=by omega
 have ao:fitK f { kind:=kk,name:=(typZ l t).name,low:=(typZ l t).low,high:=(typZ l t).high,max:=(typZ l t).max,sn:=(typZ l t).sn,syms:=(typZ l t).syms,mn:=bs.isEmpty,mems:=bs,key:=(typZ l t).key,elem:=(typZ l t).elem,opn:=(typZ l t).opn } (Vl.of kk false 0 ⟨#[]⟩ 0)=true:=by
  simp only [fitK,q1,q2,q3,q4,q5,q6,if_false,Vl.of,Vl.items,Vl.keys];by_cases k7:kk=7
  ·simp [k7,iw (by omega)]
  by_cases k8:kk=8
  ·simp [k8,iw (by omega),ascV]
  simp [k7,k8]
 simp only [k1,k2,k3,k4,false_and,if_false,decide_false];rw [nS kk false 0 ⟨#[]⟩ 0 (.inr rfl) (.inr rfl) (.inr rfl) (.inr (.inr rfl)),ao];simp [Vl.of,Vl.kind]
theorem dflts_none {S:List Typ} (h:∀ t∈S,q6M S t=none):∀ n i,q2o S n i=none
 | 0,i=>rfl
 | n + 1,i=>by
  rw [q2o];cases hi:S[i]? with
  | none=>rfl
  | some t =>
   simp only [h t (yk hi)];exact dflts_none h n (i + 1)
theorem rwS_err {l:List Nde} (hl:oks l) {T:List Typ} (h:rwS l.length (q06 l) T):q3e T=0:=by
 unfold q3e;rw [if_pos (rwS_valid hl h),dflts_none fun t ht=>?_];obtain ⟨i,hi,rfl⟩:=yA ht;have bi:i<l.length:=by rw [<- rwS_len h]; exact hi
 unfold q6M;rw [Option.map_eq_none_iff,List.find?_eq_none];intro m hm;obtain ⟨bs,lx,hb⟩:=qa9 h hi;have ld:m∈bs:=by rw [hb] at hm; exact hm
 obtain ⟨j,hj,rfl⟩:=yA ld;have dz:j<(typZ l (i:Int)).mems.length:=by rw [lx.1]; exact hj
 have hr:=lx.2 j _ _ (y6 dz) (y6 hj);unfold badM;rcases hr.2.2.2 with h4 | ⟨_,_,h5,_⟩
 ·rw [h4];have uM:∃ rc id p,p.ok/\q7u l (i:Int) id p=true/\(typZ l (i:Int)).mems[j]=memZ l (i:Int) rc id p:=by
   have oa:=y8 dz;generalize (typZ l (i:Int)).mems[j]=m at *
   have hx:=q3N hl bi;unfold typZ at oa;generalize ndAt l (i:Int)=x at *
   have hp:∀ rc,m∈q3B l (i:Int) rc x.parts->∃ rc id p,p.ok/\q7u l (i:Int) id p=true/\m=memZ l (i:Int) rc id p:=fun rc oa=>by
    obtain ⟨id,p,_,_,h1,h2,h3⟩:=q74 12 m oa;exact ⟨rc,id,p,hx.2.2.2.2.2 p h1,h2,h3⟩
   simp only at oa;split at oa <;> first | (simp [Typ.of] at oa; done) | exact hp _ oa | skip
   all_goals split at oa <;> first | (simp [Typ.of] at oa; done) | exact hp _ oa
  obtain ⟨rc,id,p,xm,hp,he⟩:=uM;rw [he];simp only [q7u,decide_eq_true_eq] at hp;have xq:=q9y hl (i:Int) p.ty (by omega);cases hh:(memZ l (i:Int) rc id p).has with
  | false=>simp
  | true =>
   simp only [memZ,ye,decide_eq_true_eq] at hh;have:=init_plain hl h ⟨hp.2,xq.2⟩ (c:=p.flag / 4) (by have:=xm.2.2.1; omega) hh.2;simp [memZ,hh.1,this]
 ·simp [h5]
theorem recF_pos {w:Vec}:∀ (l:List Mem) (c:Int),(∀ m∈l,1<=w m.ty.toNat)->1<=c->1<=recF w l c
 | [],c,_,hc=>hc
 | x :: r,c,hm,hc=>by
  rw [recF];have h1:=hm x yn;have h2:1 * 1<=c * w x.ty.toNat:=Int.mul_le_mul hc h1 (by decide) (by omega);exact recF_pos r _ (fun m h=>hm m (yq _ h)) (by omega)
theorem sumF_ge {w:Vec}:∀ (l:List Mem) (c:Int),(∀ m∈l,0<=w m.ty.toNat)->c<=sumF w l c/\((∃ m∈l,1<=w m.ty.toNat)->c + 1<=sumF w l c)
 | [],c,_=>⟨Int.le_refl _,fun h=>by obtain ⟨m,hm,_⟩:=h; cases hm⟩
 | x :: r,c,hm=>by
  rw [sumF];have h0:=hm x yn;obtain ⟨h1,h2⟩:=sumF_ge r (c + w x.ty.toNat) fun m h=>hm m (yq _ h)
  refine ⟨by omega,fun h=>?_⟩;obtain ⟨m,oa,hp⟩:=h;rcases yj.1 oa with rfl | oa
  ·omega
  ·have:=h2 ⟨m,oa,hp⟩;omega
theorem cnt_other {N:Nat} {w:Vec} (hw:inR N w) {x:Typ} (hx:q2r N x) (hg:q0W x=true) (h5:x.kind≠5) (h6:x.kind≠6):1<=cntP x w:=by
 unfold cntP;by_cases h2:x.kind=2
 ·rw [if_pos h2]; split <;> omega
 rw [if_neg h2];by_cases h3:x.kind=3
 ·rw [if_pos h3]; split <;> omega
 rw [if_neg h3];by_cases h4:x.kind=4
 ·rw [if_pos h4];unfold q0W at hg;rw [ye,ye] at hg;have ho:=hg.2.1;unfold q7b at ho;rw [if_neg h2,if_neg h3,if_pos h4,ye] at ho;have hs:=ho.2;unfold q8z at hs;rw [ye] at hs;have:=of_decide_eq_true hs.1;omega
 rw [if_neg h4,if_neg h5,if_neg h6];by_cases h7:x.kind=7
 ·rw [if_pos h7]; split <;> omega
 rw [if_neg h7];by_cases h8:x.kind=8
 ·rw [if_pos h8]; split <;> omega
 rw [if_neg h8];by_cases h9:x.kind=9
 ·rw [if_pos h9];have:=hx.elem (by omega);have:=hw x.elem.toNat (by omega);omega
 rw [if_neg h9];omega
theorem typZ_mn (l:List Nde) (i:Int):(typZ l i).mn=(typZ l i).mems.isEmpty:=by
 unfold typZ;generalize ndAt l i=x;simp only;split
 all_goals first | rfl | skip
 ·split
  ·rfl
  ·rename_i h; simp only [Typ.of]; simpa using h
 ·split <;> rfl
theorem q7E (l:List Nde):rwS l.length (q06 l) (q06 l):=by
 refine ⟨rfl,fun i a b ha hb=>?_⟩;rw [ha] at hb;injection hb with hb;subst hb;have hm:a.mn=a.mems.isEmpty:=by
  obtain ⟨hi,rfl⟩:=yb.1 ha;simp only [q06,List.getElem_map,List.getElem_range];exact typZ_mn l _
 exact ⟨a.mems,rwL_refl _ _,by rw [<- hm]⟩
theorem frz_typsI {l:List Nde} {L:List (List AV)} {s:MSt} (h:q7h (q06 l) L s) {t N c:Nat} (hm:s.mem t N=some (q07 L)):AV.frz0 s (.ref t N 10 0 L.length c)=.sl false ((q06 l).map typC):=by
 have hL:(L.map fun c=>c.map (AV.frz1 s))=(q06 l).map typC:=by
  refine List.ext_getElem (by simp [h.1]) fun i h1 h2=>?_
  have hi:i<(q06 l).length:=by simpa using h2
  have mJ:i<L.length:=by simpa using h1
  obtain ⟨m,g1,g2⟩:=h.2 i _ _ (y6 hi) (y6 mJ);simp only [List.getElem_map];rw [g1];have sM:(q06 l)[i].mn=(q06 l)[i].mems.isEmpty:=by
   simp only [q06,List.getElem_map,List.getElem_range];exact typZ_mn l _
  have hc:AV.frz1 s m=.sl (q06 l)[i].mn ((q06 l)[i].mems.map memC):=by
   rw [sM];rcases g2 with ⟨e,rfl⟩ | ⟨M,na,_,rfl,hM⟩
   ·rw [e]; rfl
   ·have rg:(q06 l)[i].mems.isEmpty=false:=by simpa using na
    have:=q3U (sz:=13) (els_mem (q06 l)[i].mems) (mems_free (q06 l)[i].mems);simp only [yo] at this;simp only [AV.frz1,hM,y0,this,rg]
  rw [<- typL_C];simp only [typL,yl,yr,hc];rfl
 rw [frz_row (h.toR 0).els hm (by rw [hL]; simp [typC,AV.free0]),hL]
theorem of07_ev {dn:Bool} {l:List Nde} (hx:∀ x∈l,x.ok):(oks l/\evA 34 [.agg (dftC dn l)] (.tup [.agg [.sl false ((q06 l).map typC)],.bool true]))\/(¬ oks l/\evA 34 [.agg (dftC dn l)] (.tup [.agg [.sl true []],.bool false])):=by
 have od:q3g.res=[.cell 2 true 1,.tmp 3]:=rfl;by_cases hl:1<=l.length/\l.length<=5
 ·left;refine ⟨⟨hl.1,hl.2,hx⟩,?_⟩;refine q00 (c:=q3g) rfl rfl ?_;refine of_run (dn:=dn) ⟨hl.1,hl.2,hx⟩ _ rfl (fun t n row h=>by cases h) (fun t n row _ h=>by cases h) ?_ ?_ ?_ _ (fun s' h=>?_)
  ·intro t;rcases t with _ | t
   ·exact lowV_agg (fun c hc=>by simp only [dftC,List.mem_singleton] at hc; subst hc; exact q9i rfl)
   ·exact fun _ _ _=>rfl
  ·exact fun t _ _ _=>rfl
  ·exact fun t=>qb9 _
  ·obtain ⟨hc,e2,e3,lt,N,L,h2,hN,da,zk,hL,hT⟩:=h;have g2:=frz_typsI hT (c:=l.length) zk;rw [hL] at g2;have jn:(s'.env 2).v=.ptr 2 1 0:=e2;have rm:s'.mem 2 1=some [⟨.ref 168 N 10 0 l.length l.length,.no⟩]:=h2;have f1:AV.frz s' (.agg [.ref 168 N 10 0 l.length l.length])=.agg [.sl false ((q06 l).map typC)]:=by simp only [AV.frz,yl,yr,g2]
   have f2:AV.frz s' (.bool true)=.bool true:=rfl;simp [fin,od,resC,jn,e3,rm,q0M,f1,f2,finV,AV.free,AV.free0,pack,-AV.frz,-AV.frz0]
 ·right;refine ⟨fun h=>hl ⟨h.1,h.2.1⟩,?_⟩;refine q00 (c:=q3g) rfl rfl ?_;refine of_bad hl _ rfl (fun t n row h=>by cases h) _ (fun s' hc e2 e3 h2=>?_);have jn:(s'.env 2).v=.ptr 2 1 0:=e2;have rm:s'.mem 2 1=some [⟨.sl true [],.no⟩]:=h2;simp [fin,od,resC,jn,e3,rm,q0M,finV,AV.free,AV.free0,pack]
theorem typZ_mem {l:List Nde} (hl:oks l) {i:Nat} (hi:i<l.length) {m:Mem} (oa:m∈(typZ l (i:Int)).mems):∃ rc id p,p.ok/\q7u l (i:Int) id p=true/\m=memZ l (i:Int) rc id p:=by
 have hx:=q3N hl hi;unfold typZ at oa;generalize ndAt l (i:Int)=x at *
 have hp:∀ rc,m∈q3B l (i:Int) rc x.parts->∃ rc id p,p.ok/\q7u l (i:Int) id p=true/\m=memZ l (i:Int) rc id p:=fun rc oa=>by
  obtain ⟨id,p,_,_,h1,h2,h3⟩:=q74 12 m oa;exact ⟨rc,id,p,hx.2.2.2.2.2 p h1,h2,h3⟩
 simp only at oa;split at oa <;> first | (simp [Typ.of] at oa; done) | exact hp _ oa | skip
 all_goals split at oa <;> first | (simp [Typ.of] at oa; done) | exact hp _ oa
theorem dflt_kind {l:List Nde} (hl:oks l) {T:List Typ} (h:rwS l.length (q06 l) T):∀ j,(hj:j<T.length)->∀ m∈T[j].mems,m.has=true->∀ y,T[m.ty.toNat]?=some y->y.kind≠5/\y.kind≠6:=fun j hj m hm hh y hy=>by
 have zg:j<l.length:=by rw [<- rwS_len h]; exact hj
 obtain ⟨bs,lx,hb⟩:=qa9 h hj;have ld:m∈bs:=by rw [hb] at hm; exact hm
 obtain ⟨i,hi,rfl⟩:=yA ld;have fC:i<(typZ l (j:Int)).mems.length:=by rw [lx.1]; exact hi
 have hr:=lx.2 i _ _ (y6 fC) (y6 hi);rcases hr.2.2.2 with h4 | ⟨_,_,h5,_⟩
 ·obtain ⟨rc,id,p,xm,hp,he⟩:=typZ_mem hl zg (y8 fC);rw [h4,he] at hh hy;simp only [q7u,decide_eq_true_eq] at hp;have xq:=q9y hl (j:Int) p.ty (by omega);simp only [memZ,ye] at hh hy;have h2:=hh.2;unfold q7J at h2;split at h2
  ·cases h2
  ·rename_i hk;obtain ⟨ht,tb⟩:=yb.1 hy;have wK:(tgtZ l (j:Int) p.ty).toNat<l.length:=by omega
   have zb:=q9A l wK;have e1:(((tgtZ l (j:Int) p.ty).toNat:Nat):Int)=tgtZ l (j:Int) p.ty:=by omega
   have dN:=rwT_kind (qa9 h ht);rw [e1] at zb dN;rw [<- tb,dN,zb];rw [if_neg (fun q=>hk (.inr q.1))];split
   ·decide
   ·split
    ·constructor <;> omega
    ·decide
 ·rw [h5] at hh; cases hh
theorem hol_ge {l:List Nde}:∀ n k,0<=q3M l n k->7<=kdAt l (q3M l n k)
 | 0,k,h=>by simp [q3M] at h
 | n + 1,k,h=>by
  rw [q3M] at h ⊢;by_cases c:7<=kdAt l k
  ·rw [if_pos c]; exact c
  ·rw [if_neg c] at h ⊢; exact hol_ge n (k + 1) h
theorem tgt_early {l:List Nde} (i code:Int) (h:0<=tgtZ l i code):7<=kdAt l (tgtZ l i code)\/tgtZ l i code<i:=by
 unfold tgtZ at h ⊢;split
 ·rename_i c; exact c
 ·rename_i c;rw [if_neg c] at h;split
  ·rename_i c2; exact .inr (yP _ c2)
  ·rename_i c2; rw [if_neg c2] at h; exact .inl (hol_ge _ _ h)
theorem typZ_ne {l:List Nde} {i:Int} (h:(typZ l i).kind=6):(typZ l i).mems≠[]:=by
 unfold typZ at h ⊢;generalize ndAt l i=x at *
 simp only at h ⊢;split at h
 all_goals first | (simp [Typ.of] at h; done) | skip
 ·rename_i hk;split at h
  ·simp [Typ.of] at h
  ·rename_i hn; rw [if_neg hn]; simpa using hn
 ·split at h <;> simp [Typ.of] at h
theorem draft_pos {l:List Nde} (hl:oks l) {w:Vec} (hw:Low (q06 l).length (FP (q06 l)) w) (fw:∀ j,j<(q06 l).length->FP (q06 l) j w=w j):∀ j,j<(q06 l).length->1<=w j:=by
 have uj:=rwS_valid hl (q7E l);have hW:=q24 uj;intro j
 induction j using Nat.strongRecOn with
 | ind j ih =>
  intro hj;have zg:j<l.length:=by simpa [q06] using hj
  have hx:(q06 l)[j]=typZ l (j:Int):=by simp [q06]
  have sP:=hW _ (y8 hj);have hG:q0W (q06 l)[j]=true:=(q5d (q3W uj j hj)).1;have h:=fw j hj;unfold FP at h;rw [y6 hj] at h;simp only at h;have oa:∀ m∈(q06 l)[j].mems,1<=w m.ty.toNat:=fun m hm=>by
   rw [hx] at hm;obtain ⟨rc,id,p,xm,hp,rfl⟩:=typZ_mem hl zg hm;simp only [q7u,decide_eq_true_eq] at hp;have xq:=q9y hl (j:Int) p.ty (by omega);have aQ:(q06 l).length=l.length:=by simp [q06]
   show 1<=w (tgtZ l (j:Int) p.ty).toNat;rcases tgt_early (j:Int) p.ty hp.2 with h7 | da
   ·have wK:(tgtZ l (j:Int) p.ty).toNat<l.length:=by omega
    have zb:=q9A l wK;have e1:(((tgtZ l (j:Int) p.ty).toNat:Nat):Int)=tgtZ l (j:Int) p.ty:=by omega
    have hy:(q06 l)[(tgtZ l (j:Int) p.ty).toNat]'(by omega)=typZ l (((tgtZ l (j:Int) p.ty).toNat:Nat):Int):=by simp [q06]
    have hk7:7<=(typZ l (((tgtZ l (j:Int) p.ty).toNat:Nat):Int)).kind:=by
     rw [zb,e1,if_neg (by omega)];split
     ·omega
     ·split <;> omega
    have hf:=fw (tgtZ l (j:Int) p.ty).toNat (by omega);unfold FP at hf;rw [y6 (by omega)] at hf;simp only at hf;have hc:=cnt_other hw.rng (hW _ (y8 (show (tgtZ l (j:Int) p.ty).toNat<(q06 l).length by omega))) (q5d (q3W uj _ (by omega))).1 (by rw [hy]; omega) (by rw [hy]; omega);omega
   ·exact ih _ (by omega) (by omega)
  have key:1<=cntP (q06 l)[j] w:=by
   by_cases h5:(q06 l)[j].kind=5
   ·unfold cntP;simp only [h5];exact recF_pos _ _ oa (by decide)
   by_cases h6:(q06 l)[j].kind=6
   ·unfold cntP;simp only [h6];have na:(q06 l)[j].mems≠[]:=by
     rw [hx] at h6 ⊢;exact typZ_ne h6
    obtain ⟨m,hm⟩:=List.exists_mem_of_ne_nil _ na;have:=(sumF_ge (w:=w) (q06 l)[j].mems 0 (fun m hm=>by have:=oa m hm; omega)).2 ⟨m,hm,oa m hm⟩;simpa using this
   exact cnt_other hw.rng sP hG h5 h6
  omega
theorem allPos_t {w:Vec}:∀ {n:Nat},(∀ j,j<n->1<=w j)->q5F w n=true
 | 0,_=>rfl
 | n + 1,h=>by
  unfold q5F;rw [allPos_t (n:=n) (fun j hj=>h j (by omega)),decide_eq_true (by have:=h n (by omega); omega)];rfl
theorem q7q {l:List Nde} (hl:oks l):SndE ⟨false,q06 l⟩ 0:=by
 obtain ⟨hf,h6⟩:=rwS_ok hl (q7E l);have ei:=rwS_err hl (q7E l);obtain ⟨w,hw,fw,h1,h2⟩:=both_cnts ⟨false,q06 l⟩ (rwS_valid hl (q7E l));have hp:=draft_pos hl hw fw;have hs:soundE (q06 l) w=0:=by
  unfold soundE;rw [if_pos ei,allPos_t hp];rfl
 have e1:=sound_ev ⟨false,q06 l⟩ hf h6 (w:=w) (fun _=>⟨hw.rng,h1⟩);have e2:=rsound_ev ⟨false,q06 l⟩ hf h6 (w:=w) (fun _=>⟨hw.rng,h2⟩);rw [show (⟨false,q06 l⟩:Sch).types=q06 l from rfl,hs] at e1 e2;exact ⟨e1,e2⟩
end Go.Proofs.YtbnlmgncbgaepaaGreat
