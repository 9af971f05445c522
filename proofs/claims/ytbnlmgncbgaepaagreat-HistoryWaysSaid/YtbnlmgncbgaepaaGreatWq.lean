/- A part of the proof. -/
import Derived.Test.YtbnlmgncbgaepaaGreatWj
import Derived.Test.YtbnlmgncbgaepaaGreatWk
import Derived.Test.YtbnlmgncbgaepaaGreatWl
set_option linter.all false
set_option maxRecDepth 100000
set_option maxHeartbeats 8000000
open Option renaming bind_some → V
open List renaming all_eq_true → y4, getElem?_eq_getElem → y5, getElem_mem → y6, getElem?_eq_some_iff → yb, mem_cons → yf, map_cons → yh, mem_of_getElem? → yj, mem_cons_self → yk, length_map → yo, mem_cons_of_mem → yq, map_nil → yr, mem_append → yu, mem_map → yw, getElem_of_mem → yx, length_take → yC, getElem?_eq_none → yL, eq_nil_of_length_eq_zero → yN, mem_singleton → yU
open Bool renaming and_eq_true → y7, false_eq_true → yn
open Int renaming emod_nonneg → yJ, emod_lt_of_pos → yM
namespace Go.Proofs.YtbnlmgncbgaepaaGreat
open Go
theorem q7w {l:List Nde} {i:Int} {rc:Bool} {ps:List Prt}:∀ (n:Nat) (m:Mem),m∈q6L l i rc ps n->∃ id p,1<=id/\id<=(n:Int)/\p∈ps/\q7R l i id p=true/\m=memZ l i rc id p
 | 0,m,h=>by simp [q6L] at h
 | n + 1,m,h=>by
  rw [q6L] at h;rcases yu.1 h with h | h
  ·obtain ⟨id,p,h1,h2,h3⟩:=q7w n m h;exact ⟨id,p,h1,by omega,h3⟩
  ·unfold memAt at h;split at h
   ·rename_i p hp;simp only [yU] at h;exact ⟨((n + 1:Nat):Int),p,by omega,by omega,List.mem_of_find?_eq_some hp,List.find?_some hp,h⟩
   ·cases h
theorem init_ok {l:List Nde} (hl:oks l) (t code:Int) (hc:0<=code):(q84 l t code).1.ok/\(q84 l t code).1.i64:=by
 have hx:u8 (ndAt l t).a/\u8 (ndAt l t).b:=by
  unfold ndAt;cases h:l[t.toNat]? with
  | none=>exact ⟨⟨by decide,by decide⟩,⟨by decide,by decide⟩⟩
  | some x =>
   have:=hl.2.2 x (yj h);exact ⟨this.2.1,this.2.2.1⟩
 obtain ⟨⟨a0,a1⟩,⟨b0,b1⟩⟩:=hx;unfold q84;split
 ·exact ⟨by rw [Vl.ok_def]; simp [Vl.of,Vl.keys,Vl.items,Vl.rest,Vl.s]; decide,by rw [Vl.i64_def]; simp [Vl.of,Vl.keys,Vl.items,Vl.i,i64R]⟩
 ·refine ⟨?_,?_⟩
  ·rw [Vl.ok_def];refine ⟨by simp [Vl.of,Vl.keys],by simp [Vl.of,Vl.items],by simp [Vl.of,Vl.rest],?_,by simp [Vl.of,Vl.keys],by simp [Vl.of,Vl.items]⟩;simp only [Vl.of,Vl.s];split <;> exact (by decide)
  ·rw [Vl.i64_def];refine ⟨?_,by simp [Vl.of,Vl.keys],by simp [Vl.of,Vl.items]⟩;simp only [Vl.of,Vl.i,i64R];split
   ·have hm:0<(ndAt l t).b % 6 + 1:=by omega
    have:=yJ code (show (ndAt l t).b % 6 + 1≠0 by omega);have:=yM code hm;simp only [Nde.low];omega
   ·omega
theorem memZ_ok {l:List Nde} (hl:oks l) {i:Int} {rc:Bool} {id:Int} {p:Prt} (hp:p.ok):(memZ l i rc id p).ok/\(memZ l i rc id p).dflt.i64:=by
 have hf:0<=p.flag / 4:=by have:=hp.2.2.1; omega
 obtain ⟨h1,h2⟩:=init_ok hl (tgtZ l i p.ty) (p.flag / 4) hf;have hz:Vl.zero.ok/\Vl.zero.i64:=⟨by rw [Vl.ok_def]; simp [Vl.zero,Vl.keys,Vl.items,Vl.rest,Vl.s]; decide,by rw [Vl.i64_def]; simp [Vl.zero,Vl.keys,Vl.items,Vl.i,i64R]⟩;have hn:(memZ l i rc id p).name.size<=9223372036854775807:=by
  have:=enc_size (97 + id);have h1:(⟨#[109]⟩:ByteArray).size=1:=rfl;simp only [memZ,qau,ByteArray.size_append];omega
 refine ⟨⟨?_,hn⟩,?_⟩ <;> simp only [memZ] <;> split <;> first | exact h1 | exact h2 | exact hz.1 | exact hz.2
theorem typZ_ok {l:List Nde} (hl:oks l) (i:Nat) (hi:i<l.length):(typZ l (i:Int)).fine/\(typZ l (i:Int)).d64:=by
 have hx:=q3P hl hi;have hm:∀ rc,∀ m∈q3B l (i:Int) rc (ndAt l (i:Int)).parts,m.ok/\m.dflt.i64:=fun rc m h=>by
  obtain ⟨id,p,_,_,h1,_,rfl⟩:=q7w 12 m h;exact memZ_ok hl (hx.2.2.2.2.2 p h1)
 have ja:∀ rc,(q3B l (i:Int) rc (ndAt l (i:Int)).parts).length<=12:=fun rc=>q7U l _ rc _ 12
 have hs:(q7n (ndAt l (i:Int)).a).length<=6:=by
  have:=qbM (ndAt l (i:Int)).a;simp only [q7n,yo];omega
 have base:∀ k nm,(Typ.of k nm).fine/\(Typ.of k nm).d64:=fun k nm=>⟨⟨⟨by simp [Typ.of],by simp [Typ.of],by simp [Typ.of]⟩,by simp [Typ.of],by simp [Typ.of]⟩,by simp [Typ.d64,Typ.of]⟩
 have ta:∀ t:Typ,t.syms.length<=6->t.mems.length<=12->(∀ m∈t.mems,m.ok/\m.dflt.i64)->t.fine/\t.d64:=fun t h1 h2 h3=>⟨⟨⟨by omega,by omega,fun m hm=>(h3 m hm).1⟩,by omega,by omega⟩,fun m hm=>(h3 m hm).2⟩
 unfold typZ;simp only;split
 ·exact base _ _
 ·exact ta _ (by simp [Typ.of]) (by simp [Typ.of]) (by simp [Typ.of])
 ·exact ta _ (by simp [Typ.of]) (by simp [Typ.of]) (by simp [Typ.of])
 ·exact ta _ hs (by simp [Typ.of]) (by simp [Typ.of])
 ·exact ta _ (by simp [Typ.of]) (ja _) (hm _)
 ·split
  ·exact base _ _
  ·exact ta _ (by simp [Typ.of]) (ja _) (hm _)
 ·exact ta _ (by simp [Typ.of]) (by simp [Typ.of]) (by simp [Typ.of])
 ·split <;> exact ta _ (by simp [Typ.of]) (by simp [Typ.of]) (by simp [Typ.of])
 ·exact ta _ (by simp [Typ.of]) (by simp [Typ.of]) (by simp [Typ.of])
theorem rwT_ok {n:Nat} {a b:Typ} (h:rwT n a b) (ha:a.fine/\a.d64):b.fine/\b.d64:=by
 obtain ⟨bs,⟨hl,hm⟩,rfl⟩:=h;obtain ⟨⟨⟨h1,h2,h3⟩,h4,h5⟩,h6⟩:=ha;have hz:Vl.zero.ok/\Vl.zero.i64:=⟨by rw [Vl.ok_def]; simp [Vl.zero,Vl.keys,Vl.items,Vl.rest,Vl.s]; decide,by rw [Vl.i64_def]; simp [Vl.zero,Vl.keys,Vl.items,Vl.i,i64R]⟩;have hb:∀ m∈bs,m.ok/\m.dflt.i64:=fun m na=>by
  obtain ⟨i,hi,rfl⟩:=yx na;have eB:i<a.mems.length:=by omega
  obtain ⟨g1,g2,g3,g4⟩:=hm i _ _ (y5 eB) (y5 hi);have lK:=h3 _ (y6 eB);have xN:=h6 _ (y6 eB);rcases g4 with g4 | ⟨_,_,_,g4⟩
  ·rw [g4]; exact ⟨lK,xN⟩
  ·exact ⟨⟨by rw [g4]; exact hz.1,by rw [g2]; exact lK.2⟩,by rw [g4]; exact hz.2⟩
 exact ⟨⟨⟨h1,by dsimp only; omega,fun m na=>(hb m na).1⟩,h4,by dsimp only; omega⟩,fun m na=>(hb m na).2⟩
theorem rwS_ok {l:List Nde} (hl:oks l) {T:List Typ} (h:rwS l.length (q0k l) T):(⟨false,T⟩:Sch).fine/\(⟨false,T⟩:Sch).d64:=by
 obtain ⟨ja,h⟩:=h;have wK:=hl.2.1;have aO:(q0k l).length=l.length:=by simp [q0k]
 have hT:∀ t∈T,t.fine/\t.d64:=fun t ht=>by
  obtain ⟨i,hi,rfl⟩:=yx ht;have ac:i<l.length:=by omega
  have:=h i (typZ l (i:Int)) _ (by simp [q0k,ac]) (y5 hi);exact rwT_ok this (typZ_ok hl i ac)
 exact ⟨⟨by dsimp only; omega,fun t ht=>(hT t ht).1⟩,fun t ht=>(hT t ht).2⟩
theorem mName_ok:∀ d:Fin 13,q3V (qau (d.val:Int))=true:=by decide +kernel
theorem mName_inj:∀ d e:Fin 13,qau (d.val:Int)=qau (e.val:Int)->d=e:=by decide +kernel
theorem tName_ok:∀ d:Fin 5,q3V (q8f (d.val:Int))=true:=by decide +kernel
theorem tName_inj:∀ d e:Fin 5,q8f (d.val:Int)=q8f (e.val:Int)->d=e:=by decide +kernel
theorem symsZ_ok:∀ a:Fin 256,q90 (q7n (a.val:Int))=true:=by decide +kernel
theorem mName_ok' {d:Int} (h:0<=d/\d<=12):q3V (qau d)=true:=by
 have:=mName_ok ⟨d.toNat,by omega⟩
 rwa [show ((d.toNat:Nat):Int)=d from by omega] at this
theorem mName_inj' {d e:Int} (h:0<=d/\d<=12) (h':0<=e/\e<=12) (he:qau d=qau e):d=e:=by
 have:=mName_inj ⟨d.toNat,by omega⟩ ⟨e.toNat,by omega⟩;simp only [show ((d.toNat:Nat):Int)=d from by omega,show ((e.toNat:Nat):Int)=e from by omega] at this;have:=congrArg Fin.val (this he);simp only at this;omega
theorem ents_asc:∀ (L:List Int) (b:Int) (seen:List ByteArray),0<=b->(∀ d∈L,b<d/\d<=12)->L.Pairwise (·<·)->(∀ s∈seen,∃ j,0<=j/\j<=b/\s=qau j)->q1P b seen (L.map fun d=>(d,qau d))=true
 | [],_,_,_,_,_,_=>rfl
 | d :: r,b,seen,hb,hd,hp,hs=>by
  have h1:=hd d yk;rw [List.pairwise_cons] at hp;simp only [yh,q1P,y7,Bool.not_eq_true'];refine ⟨⟨⟨?_,?_⟩,mName_ok' (by omega)⟩,ents_asc r d (seen++[qau d]) (by omega) (fun e he=>⟨hp.1 e he,(hd e (yq _ he)).2⟩) hp.2 fun s fi=>?_⟩
  ·simp only [idOk,y7,decide_eq_true_eq];omega
  ·refine qbJ fun wd=>?_
   obtain ⟨j,j0,j1,hj⟩:=hs _ wd;have:=mName_inj' (by omega) (by omega) hj;omega
  ·rcases yu.1 fi with fi | fi
   ·obtain ⟨j,j0,j1,hj⟩:=hs s fi;exact ⟨j,j0,by omega,hj⟩
   ·rw [yU] at fi;exact ⟨d,by omega,by omega,fi⟩
theorem parts_ents (l:List Nde) (i:Int) (rc:Bool) (ps:List Prt):∀ n:Nat,∃ L:List Int,(q6L l i rc ps n).map memE=L.map (fun d=>(d,qau d))/\L.Pairwise (·<·)/\∀ d∈L,1<=d/\d<=(n:Int)
 | 0=>⟨[],rfl,List.Pairwise.nil,fun d h=>by cases h⟩
 | n + 1=>by
  obtain ⟨L,h1,h2,h3⟩:=parts_ents l i rc ps n;rw [q6L,List.map_append,h1];unfold memAt;split
  ·refine ⟨L++[((n + 1:Nat):Int)],by simp [memE,memZ],?_,fun d hd=>?_⟩
   ·rw [List.pairwise_append];refine ⟨h2,List.pairwise_singleton _ _,fun a ha b hb=>?_⟩;rw [yU] at hb;have:=h3 a ha;omega
   ·rcases yu.1 hd with hd | hd
    ·have:=h3 d hd; omega
    ·rw [yU] at hd; omega
  ·exact ⟨L,by simp,h2,fun d hd=>by have:=h3 d hd; omega⟩
theorem rwL_ents {n:Nat} {xs bs:List Mem} (h:rwL n xs bs):bs.map memE=xs.map memE:=by
 refine List.ext_getElem (by simp [h.1]) fun i h1 h2=>?_
 simp only [yo] at h1 h2;have:=h.2 i xs[i] bs[i] (y5 h2) (y5 h1);simp only [List.getElem_map,memE,this.1,this.2.1]
theorem init_no {l:List Nde} {t c:Int} (h:(q84 l t c).2=false):(q84 l t c).1=Vl.zero:=by
 unfold q84 at h ⊢;split at h
 ·rename_i hc;rw [if_pos hc];rfl
 ·cases h
theorem memZ_good (l:List Nde) (i:Int) (rc:Bool) (id:Int) (p:Prt):q0T rc (memZ l i rc id p)=true:=by
 by_cases h2:2<=p.flag % 4
 ·have h1:¬ p.flag % 4=1:=by omega
  cases rc with
  | false=>simp [q0T,memZ,Vl.same_refl]
  | true =>
   cases h3:(q84 l (tgtZ l i p.ty) (p.flag / 4)).2 with
   | false=>simp [q0T,memZ,h1,h2,h3,init_no h3,Vl.same_refl]
   | true=>simp [q0T,memZ,h1,h2,h3]
 ·cases rc <;> simp [q0T,memZ,h2,Vl.same_refl]
theorem rwM_good {n:Nat} {rc:Bool} {a b:Mem} (h:rwM n a b) (ha:q0T rc a=true):q0T rc b=true:=by
 obtain ⟨h1,h2,h3,h4⟩:=h;rcases h4 with rfl | ⟨_,_,h5,h6⟩
 ·exact ha
 ·simp only [q0T,h3,h5,h6,Vl.same_refl] at ha ⊢;cases rc <;> cases hc:a.crit <;> simp [hc] at ha ⊢
theorem mems_good {l:List Nde} {i:Int} {rc:Bool} {ps:List Prt} {n:Nat} {bs:List Mem} (h:rwL n (q3B l i rc ps) bs) (oa:rc=true\/bs≠[]):q5B rc bs=true:=by
 obtain ⟨L,h1,h2,h3⟩:=parts_ents l i rc ps 12;have ja:bs.length<=12:=by rw [<- h.1]; exact q7U l i rc ps 12
 have kC:q1P 0 [] (bs.map memE)=true:=by
  rw [rwL_ents h,show (q3B l i rc ps).map memE=_ from h1];exact ents_asc L 0 [] (by omega) (fun d hd=>by have:=h3 d hd; omega) h2 (fun s hs=>by cases hs)
 have ta:bs.all (q0T rc)=true:=y4.2 fun b hb=>by
  obtain ⟨j,hj,rfl⟩:=yx hb;have jx:j<(q3B l i rc ps).length:=by rw [h.1]; exact hj
  have hm:=h.2 j _ _ (y5 jx) (y5 hj);obtain ⟨id,p,_,_,_,_,he⟩:=q7w 12 _ (y6 jx);refine rwM_good hm ?_;rw [he];exact memZ_good l i rc id p
 have ab:rc=true\/0<bs.length:=oa.imp id fun h=>List.length_pos_iff.2 h
 simp only [q5B,ta,kC,Bool.true_and,y7,Bool.or_eq_true,decide_eq_true_eq];exact ⟨ab,by omega⟩
theorem key_neg {l:List Nde} {code:Int}:∀ n k,q4h l code n k<0->(∀ m,0<=(code + (m:Int)) % l.length)->∀ m:Nat,k<=m->m<k + n->isKey (kdAt l ((code + m) % l.length))=false
 | 0,k,_,_,m,h1,h2=>by omega
 | n + 1,k,h,hp,m,h1,h2=>by
  simp only [q4h] at h;split at h
  ·have:=hp k; omega
  ·rename_i hk;by_cases e:m=k
   ·subst e;simpa using hk
   ·exact key_neg n (k + 1) h hp m (by omega) (by omega)
theorem key_is {l:List Nde} {code:Int}:∀ n k,0<=q4h l code n k->isKey (kdAt l (q4h l code n k))=true
 | 0,k,h=>by simp [q4h] at h
 | n + 1,k,h=>by
  simp only [q4h] at h ⊢;split
  ·assumption
  ·rename_i hk;rw [if_neg hk] at h;exact key_is n (k + 1) h
theorem keyZ_neg {l:List Nde} (hl:oks l) {c:Int} (hc:0<=c) (h:keyZ l c<0) {z:Int} (h0:0<=z) (h1:z<l.length):isKey (kdAt l z)=false:=by
 have hp:=hl.1;have hn:(l.length:Int)≠0:=by omega
 have ab:∀ m,0<=(c + (m:Int)) % l.length:=fun m=>yJ _ hn
 have:=key_neg (l:=l) (code:=c) l.length 0 h ab ((z - c) % l.length).toNat (by omega) (by
  have:=yM (z - c) (b:=(l.length:Int)) (by omega);omega)
 have h2:=yJ (z - c) hn;rw [show (((z - c) % l.length).toNat:Int)=(z - c) % l.length from by omega,Int.add_emod_emod] at this;rw [show c + (z - c)=z from by omega,Int.emod_eq_of_lt h0 h1] at this;exact this
theorem keyZ_some {l:List Nde} (hl:oks l) {c d:Int} (hc:0<=c) (hd:0<=d) (h:keyZ l c<0):keyZ l d<0:=by
 by_cases h':keyZ l d<0
 ·exact h'
 ·have h1:=key_is (l:=l) (code:=d) l.length 0 (by simpa [keyZ] using h');have h2:=q9d hl d l.length 0;have h3:=keyZ_neg hl hc h (z:=keyZ l d) (by omega) (by unfold keyZ; omega);unfold keyZ at h3;rw [h3] at h1;cases h1
structure TypD (l:List Nde) (i:Nat) (b:Typ):Prop where
 good:q0L b=true
 nm:b.named=true->b.name=q8f (i:Int)
 uses:∀ u∈b.usesL,0<=u/\u<l.length
 key:b.kind=8->isKey (kdAt l b.key)=true
theorem q7W {n:Nat} {bs:List Mem} (h:rwL n [] bs):bs=[]:=yN h.1.symm
theorem mem_uses {l:List Nde} (hl:oks l) {i:Nat} (hi:i<l.length) {rc:Bool} {ps:List Prt} {bs:List Mem} (h:rwL l.length (q3B l (i:Int) rc ps) bs):∀ u∈bs.map Mem.ty,0<=u/\u<l.length:=fun u hu=>by
 obtain ⟨b,hb,rfl⟩:=yw.1 hu;obtain ⟨j,hj,rfl⟩:=yx hb;have jx:j<(q3B l (i:Int) rc ps).length:=by rw [h.1]; exact hj
 have hm:=h.2 j _ _ (y5 jx) (y5 hj);obtain ⟨id,p,_,_,_,hp,he⟩:=q7w 12 _ (y6 jx);rcases hm.2.2.2 with h4 | ⟨h4,h5,_⟩
 ·rw [h4,he];simp only [q7R,decide_eq_true_eq] at hp;exact ⟨hp.2,(qah hl (i:Int) p.ty (by omega)).2⟩
 ·exact ⟨h4,h5⟩
theorem typ_d {l:List Nde} (hl:oks l) {i:Nat} (hi:i<l.length) {b:Typ} (h:rwT l.length (typZ l (i:Int)) b):TypD l i b:=by
 obtain ⟨bs,oe,rfl⟩:=h;have hx:=q3P hl hi;obtain ⟨xk,xa,xb,xc,_⟩:=hx0 _ hx;have wK:=hl.2.1;have hn:(l.length:Int)≠0:=by omega
 have uu:=kind_rng hx;have jb:q3V (q8f (i:Int))=true:=tName_ok ⟨i,by omega⟩;have fb:q90 (q7n (ndAt l (i:Int)).a)=true:=by
  have:=symsZ_ok ⟨(ndAt l (i:Int)).a.toNat,by have:=xa.2; have:=xa.1; omega⟩
  rwa [show (((ndAt l (i:Int)).a.toNat:Nat):Int)=(ndAt l (i:Int)).a from by have:=xa.1; omega] at this
 have po:0<=(ndAt l (i:Int)).c % l.length/\(ndAt l (i:Int)).c % l.length<l.length:=⟨yJ _ hn,yM _ (by omega)⟩;unfold typZ at oe ⊢;generalize ndAt l (i:Int)=x at *
 by_cases k1:x.kind=1
 ·simp only [k1] at oe ⊢;obtain rfl:=q7W oe;exact ⟨by simp [q0L,q6R,Typ.left,Typ.same,q1S,Typ.of,q0A],fun h=>by simp [Typ.named,Typ.of] at h,fun u hu=>by simp [Typ.usesL,Typ.of] at hu,fun h=>by simp [Typ.of] at h⟩
 by_cases k2:x.kind=2
 ·simp only [k2] at oe ⊢;obtain rfl:=q7W oe;have gP:x.low<=x.high:=by
   simp only [Nde.high];have:=yJ x.b (show (6:Int)≠0 by decide);omega
  exact ⟨by simp [q0L,q6R,Typ.left,Typ.same,q1S,Typ.of,q0A,gP],fun h=>by simp [Typ.named,Typ.of] at h,fun u hu=>by simp [Typ.usesL,Typ.of] at hu,fun h=>by simp [Typ.of] at h⟩
 by_cases k3:x.kind=3
 ·simp only [k3] at oe ⊢;obtain rfl:=q7W oe;exact ⟨by simp [q0L,q6R,Typ.left,Typ.same,q1S,Typ.of,q0A]; omega,fun h=>by simp [Typ.named,Typ.of] at h,fun u hu=>by simp [Typ.usesL,Typ.of] at hu,fun h=>by simp [Typ.of] at h⟩
 by_cases k4:x.kind=4
 ·simp only [k4] at oe ⊢;obtain rfl:=q7W oe;exact ⟨by simp [q0L,q6R,Typ.left,Typ.same,q1S,Typ.of,q0A,jb,fb],fun h=>by simp [Typ.of],fun u hu=>by simp [Typ.usesL,Typ.of] at hu,fun h=>by simp [Typ.of] at h⟩
 by_cases k5:x.kind=5
 ·simp only [k5] at oe ⊢;have hg:=mems_good oe (.inl rfl);have hu:=mem_uses hl hi oe;exact ⟨by simp [q0L,q6R,Typ.left,Typ.same,q1S,Typ.of,q0A,jb,hg],fun h=>by simp [Typ.of],fun u h=>hu u (by simpa [Typ.usesL,Typ.of] using h),fun h=>by simp [Typ.of] at h⟩
 by_cases k6:x.kind=6
 ·simp only [k6] at oe ⊢;by_cases he:(q3B l (i:Int) false x.parts).isEmpty=true
  ·simp only [he,if_true] at oe ⊢;obtain rfl:=q7W oe;exact ⟨by simp [q0L,q6R,Typ.left,Typ.same,q1S,Typ.of,q0A,jb,q5B,q1P],fun h=>by simp [Typ.of],fun u hu=>by simp [Typ.usesL,Typ.of] at hu,fun h=>by simp [Typ.of] at h⟩
  ·simp only [he,if_false,yn] at oe ⊢;have oa:bs≠[]:=fun e=>by
    rw [e] at oe;have:=oe.1;simp only [List.length_nil] at this;rw [yN this] at he;simp at he
   have hg:=mems_good oe (.inr oa);have hu:=mem_uses hl hi oe;exact ⟨by simp [q0L,q6R,Typ.left,Typ.same,q1S,Typ.of,q0A,jb,hg],fun h=>by simp [Typ.of],fun u h=>hu u (by simpa [Typ.usesL,Typ.of] using h),fun h=>by simp [Typ.of] at h⟩
 by_cases k7:x.kind=7
 ·simp only [k7] at oe ⊢;obtain rfl:=q7W oe;exact ⟨by simp [q0L,q6R,Typ.left,Typ.same,q1S,Typ.of,q0A]; omega,fun h=>by simp [Typ.named,Typ.of] at h,fun u hu=>by simp [Typ.usesL,Typ.of] at hu; rw [hu]; exact po,fun h=>by simp [Typ.of] at h⟩
 by_cases k8:x.kind=8
 ·simp only [k8] at oe ⊢;by_cases hc:keyZ l x.b<0
  ·simp only [if_pos hc] at oe ⊢;obtain rfl:=q7W oe;exact ⟨by simp [q0L,q6R,Typ.left,Typ.same,q1S,Typ.of,q0A]; omega,fun h=>by simp [Typ.named,Typ.of] at h,fun u hu=>by simp [Typ.usesL,Typ.of] at hu; rw [hu]; exact po,fun h=>by simp [Typ.of] at h⟩
  ·simp only [if_neg hc] at oe ⊢;obtain rfl:=q7W oe;have uu:=q9d hl x.b l.length 0;refine ⟨by simp [q0L,q6R,Typ.left,Typ.same,q1S,Typ.of,q0A]; omega,fun h=>by simp [Typ.named,Typ.of] at h,fun u hu=>?_,fun h=>key_is l.length 0 (by simpa [keyZ] using hc)⟩;simp [Typ.usesL,Typ.of] at hu;rcases hu with rfl | rfl
   ·exact ⟨by omega,uu.2⟩
   ·exact po
 have k9:x.kind=9:=by omega
 simp only [k9] at oe ⊢;obtain rfl:=q7W oe;exact ⟨by simp [q0L,q6R,Typ.left,Typ.same,q1S,Typ.of,q0A],fun h=>by simp [Typ.named,Typ.of] at h,fun u hu=>by simp [Typ.usesL,Typ.of] at hu; rw [hu]; exact po,fun h=>by simp [Typ.of] at h⟩
theorem kdAt_nd (l:List Nde) {j:Nat} (hj:j<l.length):kdAt l (j:Int)=(ndAt l (j:Int)).kind:=by
 simp [kdAt,ndAt,y5 hj]
theorem qai (l:List Nde) {j:Nat} (hj:j<l.length):(typZ l (j:Int)).kind=(if kdAt l (j:Int)=6/\(q3B l (j:Int) false (ndAt l (j:Int)).parts).isEmpty=true then 5 else if kdAt l (j:Int)=8/\keyZ l (ndAt l (j:Int)).b<0 then 7 else if 1<=kdAt l (j:Int)/\kdAt l (j:Int)<=8 then kdAt l (j:Int) else 9):=by
 rw [kdAt_nd l hj];unfold typZ;generalize ndAt l (j:Int)=x;simp only;split
 ·rename_i h; simp [h,Typ.of]
 ·rename_i h; simp [h,Typ.of]
 ·rename_i h; simp [h,Typ.of]
 ·rename_i h; simp [h,Typ.of]
 ·rename_i h; simp [h,Typ.of]
 ·rename_i h;split
  ·rename_i h'; simp [h,h',Typ.of]
  ·rename_i h'; simp [h,h',Typ.of]
 ·rename_i h; simp [h,Typ.of]
 ·rename_i h;split
  ·rename_i h'; simp [h,h',Typ.of]
  ·rename_i h'; simp [h,h',Typ.of]
 ·rename_i h1 h2 h3 h4 h5 h6 h7 h8;have e6:¬ x.kind=6:=h6;have e8:¬ x.kind=8:=h8;have hr:¬ (1<=x.kind/\x.kind<=8):=fun ⟨a,b⟩=>by
   have q1:¬ x.kind=1:=h1;have q2:¬ x.kind=2:=h2;have q3:¬ x.kind=3:=h3;have q4:¬ x.kind=4:=h4;have q5:¬ x.kind=5:=h5;have q7:¬ x.kind=7:=h7;omega
  simp [e6,e8,hr,Typ.of]
theorem rwS_len {n:Nat} {l:List Nde} {T:List Typ} (h:rwS n (q0k l) T):T.length=l.length:=by
 have:=h.1;simp [q0k] at this;exact this.symm
theorem qaP {l:List Nde} {T:List Typ} (h:rwS l.length (q0k l) T) {i:Nat} (hi:i<T.length):rwT l.length (typZ l (i:Int)) T[i]:=by
 have ac:i<l.length:=by rw [<- rwS_len h]; exact hi
 exact h.2 i _ _ (by simp [q0k,ac]) (y5 hi)
theorem rwT_kind {n:Nat} {a b:Typ} (h:rwT n a b):b.kind=a.kind:=by
 obtain ⟨bs,_,rfl⟩:=h;rfl
theorem qb8 {l:List Typ} (h:∀ i,(hi:i<l.length)->q22 l i l[i]=0):∀ n i,q1Q l n i=0
 | 0,i=>rfl
 | n + 1,i=>by
  rw [q1Q];by_cases hi:i<l.length
  ·rw [y5 hi];simp only [h i hi,if_true];exact qb8 h n (i + 1)
  ·rw [yL (by omega)]
theorem rwS_valid {l:List Nde} (hl:oks l) {T:List Typ} (h:rwS l.length (q0k l) T):valid T=0:=by
 have wK:=hl.2.1;have ja:=rwS_len h;unfold valid;rw [if_neg (by omega)];refine qb8 (fun i hi=>?_) _ _;have hd:∀ j,(hj:j<T.length)->TypD l j T[j]:=fun j hj=>typ_d hl (by omega) (qaP h hj)
 obtain ⟨hg,jb,hu,hk⟩:=hd i hi;unfold q22;rw [if_neg (by rw [hg]; decide)];rw [if_neg]
 ·rw [if_neg]
  ·rw [if_neg];rintro ⟨h8,hn⟩;have bc:=hk h8;have huk:=hu T[i].key (by simp [Typ.usesL,h8]);have kh:T[i].key.toNat<T.length:=by omega
   apply hn;unfold q6H;rw [y5 kh];simp only;rw [rwT_kind (qaP h kh),qai l (by omega)];rw [show ((T[i].key.toNat:Nat):Int)=T[i].key from by omega];simp only [isKey,decide_eq_true_eq] at bc;rw [if_neg (by omega),if_neg (by omega),if_pos (by omega)];exact bc
  ·intro zG;obtain ⟨u,na,ho⟩:=List.any_eq_true.1 zG;have:=hu u na;simp only [q0O,Bool.or_eq_true,decide_eq_true_eq] at ho;omega
 ·rintro ⟨hn,na⟩;rw [yw] at na;obtain ⟨b,hb,he⟩:=na;obtain ⟨j,hj,rfl⟩:=yx hb;rw [yC] at hj;rw [List.getElem_take] at he;have aF:j<T.length:=by omega
  obtain ⟨sH,nI,_,_⟩:=hd j aF;rw [jb hn] at he;have dC:T[j].named=true:=by
   cases hc:T[j].named with
   | true=>rfl
   | false =>
    have ac:=tName_ok ⟨i,by omega⟩;simp only at ac;rw [<- he] at ac;have tc:T[j].name=⟨#[]⟩:=by
     unfold q0L at sH;simp only [Typ.named,Bool.or_eq_false_iff,decide_eq_false_iff_not] at hc;simp only [y7,decide_eq_true_eq] at sH;have hs:=sH.2.2;unfold Typ.left at hs;obtain ⟨⟨c4,c5⟩,c6⟩:=hc;simp only [c4,c5,c6,if_false] at hs;split at hs
     ·simp only [Typ.same,q1S,y7,decide_eq_true_eq] at hs; exact of_decide_eq_true hs.1.1.1.1.1.1.1.1.2
     ·split at hs
      ·simp only [Typ.same,q1S,y7,decide_eq_true_eq] at hs; exact of_decide_eq_true hs.1.1.1.1.1.1.1.1.2
      ·split at hs
       ·simp only [Typ.same,q1S,y7,decide_eq_true_eq] at hs; exact of_decide_eq_true hs.1.1.1.1.1.1.1.1.2
       ·split at hs
        ·simp only [Typ.same,q1S,y7,decide_eq_true_eq] at hs; exact of_decide_eq_true hs.1.1.1.1.1.1.1.1.2
        ·split at hs
         ·simp only [Typ.same,q1S,y7,decide_eq_true_eq] at hs; exact of_decide_eq_true hs.1.1.1.1.1.1.1.1.2
         ·simp only [Typ.same,q1S,y7,decide_eq_true_eq] at hs; exact of_decide_eq_true hs.1.1.1.1.1.1.1.1.2
    rw [tc] at ac;exact absurd ac (by decide)
  have:=tName_inj ⟨j,by omega⟩ ⟨i,by omega⟩ (by simp only; rw [<- nI dC,he]);have:=congrArg Fin.val this;simp only at this;omega
theorem idxI_mem {α:Type} (p:α->Bool):∀ l:List α,(∃ x∈l,p x=true)->0<=idxI p l
 | [],h=>by obtain ⟨x,hx,_⟩:=h; cases hx
 | x :: r,h=>by
  have hg:=q3A p r;unfold idxI;by_cases hp:p x=true
  ·rw [if_pos hp]; exact Int.le_refl 0
  ·rw [if_neg hp];have:0<=idxI p r:=idxI_mem p r (by
    obtain ⟨y,hy,dL⟩:=h;rcases yf.1 hy with rfl | hy
    ·exact absurd dL hp
    ·exact ⟨y,hy,dL⟩)
   rw [if_neg (by omega)];omega
theorem idAt_mem (a c:Int) (hc:0<=c):0<=q5H (q7n a) (idAt a c):=by
 have ja:=qbM a;have hn:((idsZ a).length:Int)≠0:=by omega
 have h0:=yJ c hn;have h1:=yM c (b:=((idsZ a).length:Int)) (by omega);have fa:(c % (idsZ a).length).toNat<(idsZ a).length:=by omega
 refine idxI_mem _ _ ⟨⟨idAt a c,sName (idAt a c)⟩,?_,by simp⟩;unfold q7n;refine yw.2 ⟨idAt a c,?_,rfl⟩;unfold idAt;rw [y5 fa];exact y6 fa
theorem init_plain {l:List Nde} (hl:oks l) {T:List Typ} (h:rwS l.length (q0k l) T) {t c:Int} (ht:0<=t/\t<l.length) (hc:0<=c) (hi:(q84 l t c).2=true):q60 T t (q84 l t c).1=true:=by
 have ja:=rwS_len h;have aF:t.toNat<T.length:=by omega
 have ei:t.toNat<l.length:=by omega
 have oe:=qaP h aF;have jo:((t.toNat:Nat):Int)=t:=by omega
 have ub:=qai l ei;rw [jo] at oe ub;have hx:=q3P hl ei;rw [jo] at hx;have uu:=kdAt_rng hl ht.1 ht.2;have xg:kdAt l t=(ndAt l t).kind:=by rw [<- jo]; exact kdAt_nd l ei
 obtain ⟨xk,xa,xb,xc,_⟩:=hx0 _ hx;unfold q60;unfold fitN;have ho:q0O T.length t=false:=by simp [q0O]; omega
 rw [ho,y5 aF];generalize hf:fitN T _=f;clear hf;have hk:=rwT_kind oe;rw [ub] at hk;unfold q84 at hi ⊢;by_cases dm:kdAt l t=5\/kdAt l t=6
 ·rw [if_pos dm] at hi; cases hi
 rw [if_neg dm];have e6:¬ (kdAt l t=6/\(q3B l t false (ndAt l t).parts).isEmpty=true):=fun e=>dm (.inr e.1)
 rw [if_neg e6] at hk;obtain ⟨bs,ov,hb⟩:=oe;rw [hb] at hk ⊢;simp only [Bool.not_false,Bool.true_and];have wd:inK l t=(typZ l t).kind:=by
  unfold inK;by_cases h8:kdAt l t=8
  ·by_cases hn:keyZ l 0<0
   ·have ak:=keyZ_some hl (by omega) xb.1 hn;rw [if_pos ⟨h8,hn⟩];rw [if_pos ⟨h8,ak⟩] at hk;exact hk.symm
   ·have ak:¬ keyZ l (ndAt l t).b<0:=fun q=>hn (keyZ_some hl xb.1 (by omega) q)
    rw [if_neg (fun q=>hn q.2)];rw [if_neg (fun q=>ak q.2),if_pos (by omega)] at hk;exact hk.symm
  ·rw [if_neg (fun q=>h8 q.1)];rw [if_neg (fun q=>h8 q.1)] at hk;by_cases h9:kdAt l t<=8
   ·rw [if_pos ⟨by omega,h9⟩] at hk; exact hk.symm
   ·rw [if_neg (fun q=>h9 q.2)] at hk;show kdAt l t=_;have:(typZ l t).kind=9:=hk;omega
 rw [wd];have jQ:∀ (k:Int) (b:Bool) (i:Int) (s:ByteArray) (d:Int),(k=1\/b=false)->(k=2\/i=0)->(k=3\/s=⟨#[]⟩)->(k=4\/k=6\/d=0)->q3M (Vl.of k b i s d)=true:=fun k b i s d h1 h2 h3 h4=>by
  simp only [q3M,Vl.of,Vl.kind,Vl.b,Vl.i,Vl.s,Vl.id,Vl.keys,Vl.items,Vl.rest,List.isEmpty_nil,Bool.or_true,Bool.and_true,y7,Bool.or_eq_true,decide_eq_true_eq,Bool.not_eq_true',or_assoc];exact ⟨h1.imp (fun h=>decide_eq_true h) id,h2.imp (fun h=>decide_eq_true h) (fun h=>decide_eq_true h),h3.imp (fun h=>decide_eq_true h) (fun h=>decide_eq_true h),h4.imp (fun h=>decide_eq_true h) (Or.imp (fun h=>decide_eq_true h) (fun h=>decide_eq_true h))⟩
 by_cases k1:kdAt l t=1
 ·have hz:(typZ l t).kind=1:=by simp [typZ,<- xg,k1,Typ.of]
  rw [hz];simp [Vl.of,Vl.kind,fitK,q3M,Vl.b,Vl.i,Vl.s,Vl.id,Vl.keys,Vl.items,Vl.rest,k1]
 by_cases k2:kdAt l t=2
 ·have hz:(typZ l t).kind=2:=by simp [typZ,<- xg,k2,Typ.of]
  have fD:(typZ l t).low=(ndAt l t).low:=by simp [typZ,<- xg,k2,Typ.of]
  have sr:(typZ l t).high=(ndAt l t).high:=by simp [typZ,<- xg,k2,Typ.of]
  rw [hz,fD,sr];have h1:=yJ c (show (ndAt l t).b % 6 + 1≠0 by have:=xb.1; omega);have h2:=yM c (show 0<(ndAt l t).b % 6 + 1 by have:=xb.1; omega);have h3:(ndAt l t).low<=(ndAt l t).low + c % ((ndAt l t).b % 6 + 1):=by omega
  have h4:(ndAt l t).low + c % ((ndAt l t).b % 6 + 1)<=(ndAt l t).high:=by simp only [Nde.high]; omega
  simp [Vl.of,Vl.kind,fitK,q3M,Vl.b,Vl.i,Vl.s,Vl.id,Vl.keys,Vl.items,Vl.rest,k2,h3,h4,h1]
 by_cases k3:kdAt l t=3
 ·have hz:(typZ l t).kind=3:=by simp [typZ,<- xg,k3,Typ.of]
  have xu:(typZ l t).max=(ndAt l t).a % 4:=by simp [typZ,<- xg,k3,Typ.of]
  have h0:0<=(ndAt l t).a % 4:=by omega
  have nP:(⟨#[]⟩:ByteArray).size=0:=rfl;have di:(⟨#[97]⟩:ByteArray).size=1:=rfl;rw [hz,xu];by_cases hq:0<(ndAt l t).a % 4/\c % 2=1
  ·have h1:1<=(ndAt l t).a % 4:=by omega
   simp [Vl.of,Vl.kind,fitK,q3M,Vl.b,Vl.i,Vl.s,Vl.id,Vl.keys,Vl.items,Vl.rest,k3,hq,di,h1]
  ·simp [Vl.of,Vl.kind,fitK,q3M,Vl.b,Vl.i,Vl.s,Vl.id,Vl.keys,Vl.items,Vl.rest,k3,hq,nP,h0]
 by_cases k4:kdAt l t=4
 ·have hz:(typZ l t).kind=4:=by simp [typZ,<- xg,k4,Typ.of]
  have fb:(typZ l t).syms=q7n (ndAt l t).a:=by simp [typZ,<- xg,k4,Typ.of]
  have hm:=idAt_mem (ndAt l t).a c hc;rw [hz,fb];simp [Vl.of,Vl.kind,fitK,q3M,Vl.b,Vl.i,Vl.s,Vl.id,Vl.keys,Vl.items,Vl.rest,k4,hm]
 have hz:7<=(typZ l t).kind/\(typZ l t).kind<=9:=by
  rw [ub,if_neg e6];split
  ·omega
  ·split <;> omega
 have xu:(typZ l t).kind<=8->0<=(typZ l t).max:=fun h8=>by
  by_cases k7:kdAt l t=7
  ·have:(typZ l t).max=(ndAt l t).a % 4:=by simp [typZ,<- xg,k7,Typ.of]
   omega
  by_cases k8:kdAt l t=8
  ·by_cases hc:keyZ l (ndAt l t).b<0
   ·have:(typZ l t).max=(ndAt l t).a % 4:=by simp [typZ,<- xg,k8,hc,Typ.of]
    omega
   ·have:(typZ l t).max=(ndAt l t).a % 4:=by simp [typZ,<- xg,k8,hc,Typ.of]
    omega
  have k9:kdAt l t=9:=by omega
  have:(typZ l t).kind=9:=by simp [typZ,<- xg,k9,Typ.of]
  omega
 generalize (typZ l t).kind=kk at *
 have q1:¬ kk=1:=by omega
 have q2:¬ kk=2:=by omega
 have q3:¬ kk=3:=by omega
 have q4:¬ kk=4:=by omega
 have q5:¬ kk=5:=by omega
 have q6:¬ kk=6:=by omega
 have gn:fitK f { kind:=kk,name:=(typZ l t).name,low:=(typZ l t).low,high:=(typZ l t).high,max:=(typZ l t).max,sn:=(typZ l t).sn,syms:=(typZ l t).syms,mn:=bs.isEmpty,mems:=bs,key:=(typZ l t).key,elem:=(typZ l t).elem,opn:=(typZ l t).opn } (Vl.of kk false 0 ⟨#[]⟩ 0)=true:=by
  simp only [fitK,q1,q2,q3,q4,q5,q6,if_false,Vl.of,Vl.items,Vl.keys];by_cases k7:kk=7
  ·simp [k7,xu (by omega)]
  by_cases k8:kk=8
  ·simp [k8,xu (by omega),ascV]
  simp [k7,k8]
 simp only [k1,k2,k3,k4,false_and,if_false,decide_false];rw [jQ kk false 0 ⟨#[]⟩ 0 (.inr rfl) (.inr rfl) (.inr rfl) (.inr (.inr rfl)),gn];simp [Vl.of,Vl.kind]
theorem dflts_none {S:List Typ} (h:∀ t∈S,q7d S t=none):∀ n i,q2k S n i=none
 | 0,i=>rfl
 | n + 1,i=>by
  rw [q2k];cases hi:S[i]? with
  | none=>rfl
  | some t =>
   simp only [h t (yj hi)];exact dflts_none h n (i + 1)
theorem rwS_err {l:List Nde} (hl:oks l) {T:List Typ} (h:rwS l.length (q0k l) T):q39 T=0:=by
 unfold q39;rw [if_pos (rwS_valid hl h),dflts_none fun t ht=>?_];obtain ⟨i,hi,rfl⟩:=yx ht;have zf:i<l.length:=by rw [<- rwS_len h]; exact hi
 unfold q7d;rw [Option.map_eq_none_iff,List.find?_eq_none];intro m hm;obtain ⟨bs,ov,hb⟩:=qaP h hi;have ld:m∈bs:=by rw [hb] at hm; exact hm
 obtain ⟨j,hj,rfl⟩:=yx ld;have jx:j<(typZ l (i:Int)).mems.length:=by rw [ov.1]; exact hj
 have hr:=ov.2 j _ _ (y5 jx) (y5 hj);unfold badM;rcases hr.2.2.2 with h4 | ⟨_,_,h5,_⟩
 ·rw [h4];have zK:∃ rc id p,p.ok/\q7R l (i:Int) id p=true/\(typZ l (i:Int)).mems[j]=memZ l (i:Int) rc id p:=by
   have na:=y6 jx;generalize (typZ l (i:Int)).mems[j]=m at *
   have hx:=q3P hl zf;unfold typZ at na;generalize ndAt l (i:Int)=x at *
   have hp:∀ rc,m∈q3B l (i:Int) rc x.parts->∃ rc id p,p.ok/\q7R l (i:Int) id p=true/\m=memZ l (i:Int) rc id p:=fun rc na=>by
    obtain ⟨id,p,_,_,h1,h2,h3⟩:=q7w 12 m na;exact ⟨rc,id,p,hx.2.2.2.2.2 p h1,h2,h3⟩
   simp only at na;split at na <;> first | (simp [Typ.of] at na; done) | exact hp _ na | skip
   all_goals split at na <;> first | (simp [Typ.of] at na; done) | exact hp _ na
  obtain ⟨rc,id,p,jm,hp,he⟩:=zK;rw [he];simp only [q7R,decide_eq_true_eq] at hp;have jq:=qah hl (i:Int) p.ty (by omega);cases hh:(memZ l (i:Int) rc id p).has with
  | false=>simp
  | true =>
   simp only [memZ,y7,decide_eq_true_eq] at hh;have:=init_plain hl h ⟨hp.2,jq.2⟩ (c:=p.flag / 4) (by have:=jm.2.2.1; omega) hh.2;simp [memZ,hh.1,this]
 ·simp [h5]
theorem recF_pos {w:Vec}:∀ (l:List Mem) (c:Int),(∀ m∈l,1<=w m.ty.toNat)->1<=c->1<=recF w l c
 | [],c,_,hc=>hc
 | x :: r,c,hm,hc=>by
  rw [recF];have h1:=hm x yk;have h2:1 * 1<=c * w x.ty.toNat:=Int.mul_le_mul hc h1 (by decide) (by omega);exact recF_pos r _ (fun m h=>hm m (yq _ h)) (by omega)
theorem sumF_ge {w:Vec}:∀ (l:List Mem) (c:Int),(∀ m∈l,0<=w m.ty.toNat)->c<=sumF w l c/\((∃ m∈l,1<=w m.ty.toNat)->c + 1<=sumF w l c)
 | [],c,_=>⟨Int.le_refl _,fun h=>by obtain ⟨m,hm,_⟩:=h; cases hm⟩
 | x :: r,c,hm=>by
  rw [sumF];have h0:=hm x yk;obtain ⟨h1,h2⟩:=sumF_ge r (c + w x.ty.toNat) fun m h=>hm m (yq _ h)
  refine ⟨by omega,fun h=>?_⟩;obtain ⟨m,na,hp⟩:=h;rcases yf.1 na with rfl | na
  ·omega
  ·have:=h2 ⟨m,na,hp⟩;omega
theorem cnt_other {N:Nat} {w:Vec} (hw:inR N w) {x:Typ} (hx:q2o N x) (hg:q0L x=true) (h5:x.kind≠5) (h6:x.kind≠6):1<=cntP x w:=by
 unfold cntP;by_cases h2:x.kind=2
 ·rw [if_pos h2]; split <;> omega
 rw [if_neg h2];by_cases h3:x.kind=3
 ·rw [if_pos h3]; split <;> omega
 rw [if_neg h3];by_cases h4:x.kind=4
 ·rw [if_pos h4];unfold q0L at hg;rw [y7,y7] at hg;have ho:=hg.2.1;unfold q6R at ho;rw [if_neg h2,if_neg h3,if_pos h4,y7] at ho;have hs:=ho.2;unfold q90 at hs;rw [y7] at hs;have:=of_decide_eq_true hs.1;omega
 rw [if_neg h4,if_neg h5,if_neg h6];by_cases h7:x.kind=7
 ·rw [if_pos h7]; split <;> omega
 rw [if_neg h7];by_cases h8:x.kind=8
 ·rw [if_pos h8]; split <;> omega
 rw [if_neg h8];by_cases h9:x.kind=9
 ·rw [if_pos h9];have:=hx.elem (by omega);have:=hw x.elem.toNat (by omega);omega
 rw [if_neg h9];omega
theorem typZ_mn (l:List Nde) (i:Int):(typZ l i).mn=(typZ l i).mems.isEmpty:=by
 unfold typZ;generalize ndAt l i=x;simp only;split
 all_goals first | rfl | skip
 ·split
  ·rfl
  ·rename_i h; simp only [Typ.of]; simpa using h
 ·split <;> rfl
theorem q7X (l:List Nde):rwS l.length (q0k l) (q0k l):=by
 refine ⟨rfl,fun i a b ha hb=>?_⟩;rw [ha] at hb;injection hb with hb;subst hb;have hm:a.mn=a.mems.isEmpty:=by
  obtain ⟨hi,rfl⟩:=yb.1 ha;simp only [q0k,List.getElem_map,List.getElem_range];exact typZ_mn l _
 exact ⟨a.mems,rwL_refl _ _,by rw [<- hm]⟩
theorem frz_typsI {l:List Nde} {L:List (List AV)} {s:MSt} (h:q7H (q0k l) L s) {t N c:Nat} (hm:s.mem t N=some (q0c L)):AV.frz0 s (.ref t N 10 0 L.length c)=.sl false ((q0k l).map typC):=by
 have hL:(L.map fun c=>c.map (AV.frz1 s))=(q0k l).map typC:=by
  refine List.ext_getElem (by simp [h.1]) fun i h1 h2=>?_
  have hi:i<(q0k l).length:=by simpa using h2
  have wH:i<L.length:=by simpa using h1
  obtain ⟨m,g1,g2⟩:=h.2 i _ _ (y5 hi) (y5 wH);simp only [List.getElem_map];rw [g1];have aP:(q0k l)[i].mn=(q0k l)[i].mems.isEmpty:=by
   simp only [q0k,List.getElem_map,List.getElem_range];exact typZ_mn l _
  have hc:AV.frz1 s m=.sl (q0k l)[i].mn ((q0k l)[i].mems.map memC):=by
   rw [aP];rcases g2 with ⟨e,rfl⟩ | ⟨M,oa,_,rfl,hM⟩
   ·rw [e]; rfl
   ·have jg:(q0k l)[i].mems.isEmpty=false:=by simpa using oa
    have:=q50 (sz:=13) (els_mem (q0k l)[i].mems) (mems_free (q0k l)[i].mems);simp only [yo] at this;simp only [AV.frz1,hM,V,this,jg]
  rw [<- typL_C];simp only [typL,yh,yr,hc];rfl
 rw [frz_row (h.toR 0).els hm (by rw [hL]; simp [typC,AV.free0]),hL]
theorem of07_ev {dn:Bool} {l:List Nde} (hx:∀ x∈l,x.ok):(oks l/\evA 34 [.agg (dftC dn l)] (.tup [.agg [.sl false ((q0k l).map typC)],.bool true]))\/(¬ oks l/\evA 34 [.agg (dftC dn l)] (.tup [.agg [.sl true []],.bool false])):=by
 have nd:q3b.res=[.cell 2 true 1,.tmp 3]:=rfl;by_cases hl:1<=l.length/\l.length<=5
 ·left;refine ⟨⟨hl.1,hl.2,hx⟩,?_⟩;refine q00 (c:=q3b) rfl rfl ?_;refine of_run (dn:=dn) ⟨hl.1,hl.2,hx⟩ _ rfl (fun t n row h=>by cases h) (fun t n row _ h=>by cases h) ?_ ?_ ?_ _ (fun s' h=>?_)
  ·intro t;rcases t with _ | t
   ·exact lowV_agg (fun c hc=>by simp only [dftC,yU] at hc; subst hc; exact q9X rfl)
   ·exact fun _ _ _=>rfl
  ·exact fun t _ _ _=>rfl
  ·exact fun t=>qbO _
  ·obtain ⟨hc,e2,e3,lt,N,L,h2,hN,fa,sk,hL,hT⟩:=h;have g2:=frz_typsI hT (c:=l.length) sk;rw [hL] at g2;have rm:(s'.env 2).v=.ptr 2 1 0:=e2;have zl:s'.mem 2 1=some [⟨.ref 168 N 10 0 l.length l.length,.no⟩]:=h2;have f1:AV.frz s' (.agg [.ref 168 N 10 0 l.length l.length])=.agg [.sl false ((q0k l).map typC)]:=by simp only [AV.frz,yh,yr,g2]
   have f2:AV.frz s' (.bool true)=.bool true:=rfl;simp [fin,nd,resC,rm,e3,zl,q0Y,f1,f2,finV,AV.free,AV.free0,pack,-AV.frz,-AV.frz0]
 ·right;refine ⟨fun h=>hl ⟨h.1,h.2.1⟩,?_⟩;refine q00 (c:=q3b) rfl rfl ?_;refine of_bad hl _ rfl (fun t n row h=>by cases h) _ (fun s' hc e2 e3 h2=>?_);have rm:(s'.env 2).v=.ptr 2 1 0:=e2;have zl:s'.mem 2 1=some [⟨.sl true [],.no⟩]:=h2;simp [fin,nd,resC,rm,e3,zl,q0Y,finV,AV.free,AV.free0,pack]
theorem typZ_mem {l:List Nde} (hl:oks l) {i:Nat} (hi:i<l.length) {m:Mem} (na:m∈(typZ l (i:Int)).mems):∃ rc id p,p.ok/\q7R l (i:Int) id p=true/\m=memZ l (i:Int) rc id p:=by
 have hx:=q3P hl hi;unfold typZ at na;generalize ndAt l (i:Int)=x at *
 have hp:∀ rc,m∈q3B l (i:Int) rc x.parts->∃ rc id p,p.ok/\q7R l (i:Int) id p=true/\m=memZ l (i:Int) rc id p:=fun rc na=>by
  obtain ⟨id,p,_,_,h1,h2,h3⟩:=q7w 12 m na;exact ⟨rc,id,p,hx.2.2.2.2.2 p h1,h2,h3⟩
 simp only at na;split at na <;> first | (simp [Typ.of] at na; done) | exact hp _ na | skip
 all_goals split at na <;> first | (simp [Typ.of] at na; done) | exact hp _ na
theorem dflt_kind {l:List Nde} (hl:oks l) {T:List Typ} (h:rwS l.length (q0k l) T):∀ j,(hj:j<T.length)->∀ m∈T[j].mems,m.has=true->∀ y,T[m.ty.toNat]?=some y->y.kind≠5/\y.kind≠6:=fun j hj m hm hh y hy=>by
 have ei:j<l.length:=by rw [<- rwS_len h]; exact hj
 obtain ⟨bs,ov,hb⟩:=qaP h hj;have ld:m∈bs:=by rw [hb] at hm; exact hm
 obtain ⟨i,hi,rfl⟩:=yx ld;have eB:i<(typZ l (j:Int)).mems.length:=by rw [ov.1]; exact hi
 have hr:=ov.2 i _ _ (y5 eB) (y5 hi);rcases hr.2.2.2 with h4 | ⟨_,_,h5,_⟩
 ·obtain ⟨rc,id,p,jm,hp,he⟩:=typZ_mem hl ei (y6 eB);rw [h4,he] at hh hy;simp only [q7R,decide_eq_true_eq] at hp;have jq:=qah hl (j:Int) p.ty (by omega);simp only [memZ,y7] at hh hy;have h2:=hh.2;unfold q84 at h2;split at h2
  ·cases h2
  ·rename_i hk;obtain ⟨ht,rb⟩:=yb.1 hy;have bJ:(tgtZ l (j:Int) p.ty).toNat<l.length:=by omega
   have ub:=qai l bJ;have e1:(((tgtZ l (j:Int) p.ty).toNat:Nat):Int)=tgtZ l (j:Int) p.ty:=by omega
   have bL:=rwT_kind (qaP h ht);rw [e1] at ub bL;rw [<- rb,bL,ub];rw [if_neg (fun q=>hk (.inr q.1))];split
   ·decide
   ·split
    ·constructor <;> omega
    ·decide
 ·rw [h5] at hh; cases hh
theorem hol_ge {l:List Nde}:∀ n k,0<=q3O l n k->7<=kdAt l (q3O l n k)
 | 0,k,h=>by simp [q3O] at h
 | n + 1,k,h=>by
  rw [q3O] at h ⊢;by_cases c:7<=kdAt l k
  ·rw [if_pos c]; exact c
  ·rw [if_neg c] at h ⊢; exact hol_ge n (k + 1) h
theorem tgt_early {l:List Nde} (i code:Int) (h:0<=tgtZ l i code):7<=kdAt l (tgtZ l i code)\/tgtZ l i code<i:=by
 unfold tgtZ at h ⊢;split
 ·rename_i c; exact c
 ·rename_i c;rw [if_neg c] at h;split
  ·rename_i c2; exact .inr (yM _ c2)
  ·rename_i c2; rw [if_neg c2] at h; exact .inl (hol_ge _ _ h)
theorem typZ_ne {l:List Nde} {i:Int} (h:(typZ l i).kind=6):(typZ l i).mems≠[]:=by
 unfold typZ at h ⊢;generalize ndAt l i=x at *
 simp only at h ⊢;split at h
 all_goals first | (simp [Typ.of] at h; done) | skip
 ·rename_i hk;split at h
  ·simp [Typ.of] at h
  ·rename_i hn; rw [if_neg hn]; simpa using hn
 ·split at h <;> simp [Typ.of] at h
theorem draft_pos {l:List Nde} (hl:oks l) {w:Vec} (hw:Low (q0k l).length (FP (q0k l)) w) (fw:∀ j,j<(q0k l).length->FP (q0k l) j w=w j):∀ j,j<(q0k l).length->1<=w j:=by
 have uj:=rwS_valid hl (q7X l);have hW:=q1R uj;intro j
 induction j using Nat.strongRecOn with
 | ind j ih =>
  intro hj;have ei:j<l.length:=by simpa [q0k] using hj
  have hx:(q0k l)[j]=typZ l (j:Int):=by simp [q0k]
  have tN:=hW _ (y6 hj);have hG:q0L (q0k l)[j]=true:=(q4W (q3E uj j hj)).1;have h:=fw j hj;unfold FP at h;rw [y5 hj] at h;simp only at h;have na:∀ m∈(q0k l)[j].mems,1<=w m.ty.toNat:=fun m hm=>by
   rw [hx] at hm;obtain ⟨rc,id,p,jm,hp,rfl⟩:=typZ_mem hl ei hm;simp only [q7R,decide_eq_true_eq] at hp;have jq:=qah hl (j:Int) p.ty (by omega);have aO:(q0k l).length=l.length:=by simp [q0k]
   show 1<=w (tgtZ l (j:Int) p.ty).toNat;rcases tgt_early (j:Int) p.ty hp.2 with h7 | fa
   ·have bJ:(tgtZ l (j:Int) p.ty).toNat<l.length:=by omega
    have ub:=qai l bJ;have e1:(((tgtZ l (j:Int) p.ty).toNat:Nat):Int)=tgtZ l (j:Int) p.ty:=by omega
    have hy:(q0k l)[(tgtZ l (j:Int) p.ty).toNat]'(by omega)=typZ l (((tgtZ l (j:Int) p.ty).toNat:Nat):Int):=by simp [q0k]
    have hk7:7<=(typZ l (((tgtZ l (j:Int) p.ty).toNat:Nat):Int)).kind:=by
     rw [ub,e1,if_neg (by omega)];split
     ·omega
     ·split <;> omega
    have hf:=fw (tgtZ l (j:Int) p.ty).toNat (by omega);unfold FP at hf;rw [y5 (by omega)] at hf;simp only at hf;have hc:=cnt_other hw.rng (hW _ (y6 (show (tgtZ l (j:Int) p.ty).toNat<(q0k l).length by omega))) (q4W (q3E uj _ (by omega))).1 (by rw [hy]; omega) (by rw [hy]; omega);omega
   ·exact ih _ (by omega) (by omega)
  have key:1<=cntP (q0k l)[j] w:=by
   by_cases h5:(q0k l)[j].kind=5
   ·unfold cntP;simp only [h5];exact recF_pos _ _ na (by decide)
   by_cases h6:(q0k l)[j].kind=6
   ·unfold cntP;simp only [h6];have oa:(q0k l)[j].mems≠[]:=by
     rw [hx] at h6 ⊢;exact typZ_ne h6
    obtain ⟨m,hm⟩:=List.exists_mem_of_ne_nil _ oa;have:=(sumF_ge (w:=w) (q0k l)[j].mems 0 (fun m hm=>by have:=na m hm; omega)).2 ⟨m,hm,na m hm⟩;simpa using this
   exact cnt_other hw.rng tN hG h5 h6
  omega
theorem allPos_t {w:Vec}:∀ {n:Nat},(∀ j,j<n->1<=w j)->q5X w n=true
 | 0,_=>rfl
 | n + 1,h=>by
  unfold q5X;rw [allPos_t (n:=n) (fun j hj=>h j (by omega)),decide_eq_true (by have:=h n (by omega); omega)];rfl
theorem q4g {l:List Nde} (hl:oks l):SndE ⟨false,q0k l⟩ 0:=by
 obtain ⟨hf,h6⟩:=rwS_ok hl (q7X l);have sh:=rwS_err hl (q7X l);obtain ⟨w,hw,fw,h1,h2⟩:=both_cnts ⟨false,q0k l⟩ (rwS_valid hl (q7X l));have hp:=draft_pos hl hw fw;have hs:soundE (q0k l) w=0:=by
  unfold soundE;rw [if_pos sh,allPos_t hp];rfl
 have e1:=sound_ev ⟨false,q0k l⟩ hf h6 (w:=w) (fun _=>⟨hw.rng,h1⟩);have e2:=rsound_ev ⟨false,q0k l⟩ hf h6 (w:=w) (fun _=>⟨hw.rng,h2⟩);rw [show (⟨false,q0k l⟩:Sch).types=q0k l from rfl,hs] at e1 e2;exact ⟨e1,e2⟩
end Go.Proofs.YtbnlmgncbgaepaaGreat
