/- A part of the proof. -/
import Derived.Test.YtbnlmgncbgaepaaGreatYj
import Derived.Test.YtbnlmgncbgaepaaGreatYk
import Derived.Test.YtbnlmgncbgaepaaGreatYl
set_option linter.all false
set_option maxRecDepth 100000
set_option maxHeartbeats 8000000
open Option renaming bind_some → V
open List renaming getElem?_eq_getElem → y4, all_eq_true → y5, getElem_mem → y6, getElem?_eq_some_iff → yb, mem_cons → yh, map_cons → yj, mem_of_getElem? → yk, mem_cons_self → yl, length_map → yo, mem_cons_of_mem → yr, map_nil → yt, mem_append → yw, length_take → yz, mem_map → yA, getElem_of_mem → yB, mem_singleton → yO, getElem?_eq_none → yP, eq_nil_of_length_eq_zero → yS, map_append → yU
open Bool renaming and_eq_true → y8, false_eq_true → yq
open Int renaming emod_nonneg → yL, emod_lt_of_pos → yQ
namespace Go.Proofs.YtbnlmgncbgaepaaGreat
open Go
theorem HL {l:List jC} {i:Int} {rc:Bool} {ps:List KP}:∀ (n:Nat) (m:uC),m∈QJ l i rc ps n->∃ id p,1<=id/\id<=(n:Int)/\p∈ps/\xJ l i id p=true/\m=TL l i rc id p
 | 0,m,h=>by simp [QJ] at h
 | n + 1,m,h=>by
  rw [QJ] at h;rcases yw.1 h with h | h
  ·obtain ⟨id,p,h1,h2,h3⟩:=HL n m h;exact ⟨id,p,h1,by omega,h3⟩
  ·unfold lP at h;split at h
   ·rename_i p hp;simp only [yO] at h;exact ⟨((n + 1:Nat):Int),p,by omega,by omega,List.mem_of_find?_eq_some hp,List.find?_some hp,h⟩
   ·cases h
theorem init_ok {l:List jC} (hl:oks l) (t code:Int) (hc:0<=code):(LJ l t code).1.ok/\(LJ l t code).1.i64:=by
 have hx:u8 (GA l t).a/\u8 (GA l t).b:=by
  unfold GA;cases h:l[t.toNat]? with
  | none=>exact ⟨⟨by decide,by decide⟩,⟨by decide,by decide⟩⟩
  | some x =>
   have:=hl.2.2 x (yk h);exact ⟨this.2.1,this.2.2.1⟩
 obtain ⟨⟨a0,a1⟩,⟨b0,b1⟩⟩:=hx;unfold LJ;split
 ·exact ⟨by rw [Vl.ok_def]; simp [Vl.of,Vl.keys,Vl.items,Vl.rest,Vl.s]; decide,by rw [Vl.i64_def]; simp [Vl.of,Vl.keys,Vl.items,Vl.i,lS]⟩
 ·refine ⟨?_,?_⟩
  ·rw [Vl.ok_def];refine ⟨by simp [Vl.of,Vl.keys],by simp [Vl.of,Vl.items],by simp [Vl.of,Vl.rest],?_,by simp [Vl.of,Vl.keys],by simp [Vl.of,Vl.items]⟩;simp only [Vl.of,Vl.s];split <;> exact (by decide)
  ·rw [Vl.i64_def];refine ⟨?_,by simp [Vl.of,Vl.keys],by simp [Vl.of,Vl.items]⟩;simp only [Vl.of,Vl.i,lS];split
   ·have hm:0<(GA l t).b % 6 + 1:=by omega
    have:=yL code (show (GA l t).b % 6 + 1≠0 by omega);have:=yQ code hm;simp only [jC.low];omega
   ·omega
theorem memZ_ok {l:List jC} (hl:oks l) {i:Int} {rc:Bool} {id:Int} {p:KP} (hp:p.ok):(TL l i rc id p).ok/\(TL l i rc id p).dflt.i64:=by
 have hf:0<=p.flag / 4:=by have:=hp.2.2.1; omega
 obtain ⟨h1,h2⟩:=init_ok hl (PI l i p.ty) (p.flag / 4) hf;have hz:Vl.zero.ok/\Vl.zero.i64:=⟨by rw [Vl.ok_def]; simp [Vl.zero,Vl.keys,Vl.items,Vl.rest,Vl.s]; decide,by rw [Vl.i64_def]; simp [Vl.zero,Vl.keys,Vl.items,Vl.i,lS]⟩;have hn:(TL l i rc id p).name.size<=9223372036854775807:=by
  have:=OW (97 + id);have h1:(⟨#[109]⟩:ByteArray).size=1:=rfl;simp only [TL,bN,ByteArray.size_append];omega
 refine ⟨⟨?_,hn⟩,?_⟩ <;> simp only [TL] <;> split <;> first | exact h1 | exact h2 | exact hz.1 | exact hz.2
theorem typZ_ok {l:List jC} (hl:oks l) (i:Nat) (hi:i<l.length):(zB l (i:Int)).fine/\(zB l (i:Int)).d64:=by
 have hx:=nF hl hi;have hm:∀ rc,∀ m∈PE l (i:Int) rc (GA l (i:Int)).parts,m.ok/\m.dflt.i64:=fun rc m h=>by
  obtain ⟨id,p,_,_,h1,_,rfl⟩:=HL 12 m h;exact memZ_ok hl (hx.2.2.2.2.2 p h1)
 have ia:∀ rc,(PE l (i:Int) rc (GA l (i:Int)).parts).length<=12:=fun rc=>CM l _ rc _ 12
 have hs:(qI (GA l (i:Int)).a).length<=6:=by
  have:=xS (GA l (i:Int)).a;simp only [qI,yo];omega
 have base:∀ k nm,(dA.of k nm).fine/\(dA.of k nm).d64:=fun k nm=>⟨⟨⟨by simp [dA.of],by simp [dA.of],by simp [dA.of]⟩,by simp [dA.of],by simp [dA.of]⟩,by simp [dA.d64,dA.of]⟩
 have ta:∀ t:dA,t.syms.length<=6->t.mems.length<=12->(∀ m∈t.mems,m.ok/\m.dflt.i64)->t.fine/\t.d64:=fun t h1 h2 h3=>⟨⟨⟨by omega,by omega,fun m hm=>(h3 m hm).1⟩,by omega,by omega⟩,fun m hm=>(h3 m hm).2⟩
 unfold zB;simp only;split
 ·exact base _ _
 ·exact ta _ (by simp [dA.of]) (by simp [dA.of]) (by simp [dA.of])
 ·exact ta _ (by simp [dA.of]) (by simp [dA.of]) (by simp [dA.of])
 ·exact ta _ hs (by simp [dA.of]) (by simp [dA.of])
 ·exact ta _ (by simp [dA.of]) (ia _) (hm _)
 ·split
  ·exact base _ _
  ·exact ta _ (by simp [dA.of]) (ia _) (hm _)
 ·exact ta _ (by simp [dA.of]) (by simp [dA.of]) (by simp [dA.of])
 ·split <;> exact ta _ (by simp [dA.of]) (by simp [dA.of]) (by simp [dA.of])
 ·exact ta _ (by simp [dA.of]) (by simp [dA.of]) (by simp [dA.of])
theorem rwT_ok {n:Nat} {a b:dA} (h:rwT n a b) (ha:a.fine/\a.d64):b.fine/\b.d64:=by
 obtain ⟨bs,⟨hl,hm⟩,rfl⟩:=h;obtain ⟨⟨⟨h1,h2,h3⟩,h4,h5⟩,h6⟩:=ha;have hz:Vl.zero.ok/\Vl.zero.i64:=⟨by rw [Vl.ok_def]; simp [Vl.zero,Vl.keys,Vl.items,Vl.rest,Vl.s]; decide,by rw [Vl.i64_def]; simp [Vl.zero,Vl.keys,Vl.items,Vl.i,lS]⟩;have hb:∀ m∈bs,m.ok/\m.dflt.i64:=fun m ra=>by
  obtain ⟨i,hi,rfl⟩:=yB ra;have hia:i<a.mems.length:=by omega
  obtain ⟨g1,g2,g3,g4⟩:=hm i _ _ (y4 hia) (y4 hi);have hao:=h3 _ (y6 hia);have had:=h6 _ (y6 hia);rcases g4 with g4 | ⟨_,_,_,g4⟩
  ·rw [g4]; exact ⟨hao,had⟩
  ·exact ⟨⟨by rw [g4]; exact hz.1,by rw [g2]; exact hao.2⟩,by rw [g4]; exact hz.2⟩
 exact ⟨⟨⟨h1,by dsimp only; omega,fun m ra=>(hb m ra).1⟩,h4,by dsimp only; omega⟩,fun m ra=>(hb m ra).2⟩
theorem rwS_ok {l:List jC} (hl:oks l) {T:List dA} (h:rwS l.length (RA l) T):(⟨false,T⟩:wI).fine/\(⟨false,T⟩:wI).d64:=by
 obtain ⟨ia,h⟩:=h;have hl5:=hl.2.1;have hdl:(RA l).length=l.length:=by simp [RA]
 have hT:∀ t∈T,t.fine/\t.d64:=fun t ht=>by
  obtain ⟨i,hi,rfl⟩:=yB ht;have ac:i<l.length:=by omega
  have:=h i (zB l (i:Int)) _ (by simp [RA,ac]) (y4 hi);exact rwT_ok this (typZ_ok hl i ac)
 exact ⟨⟨by dsimp only; omega,fun t ht=>(hT t ht).1⟩,fun t ht=>(hT t ht).2⟩
theorem mName_ok:∀ d:Fin 13,sF (bN (d.val:Int))=true:=by decide +kernel
theorem mName_inj:∀ d e:Fin 13,bN (d.val:Int)=bN (e.val:Int)->d=e:=by decide +kernel
theorem N8:∀ d:Fin 5,sF (ZJ (d.val:Int))=true:=by decide +kernel
theorem tName_inj:∀ d e:Fin 5,ZJ (d.val:Int)=ZJ (e.val:Int)->d=e:=by decide +kernel
theorem symsZ_ok:∀ a:Fin 256,tN (qI (a.val:Int))=true:=by decide +kernel
theorem mName_ok' {d:Int} (h:0<=d/\d<=12):sF (bN d)=true:=by
 have:=mName_ok ⟨d.toNat,by omega⟩
 rwa [show ((d.toNat:Nat):Int)=d from by omega] at this
theorem mName_inj' {d e:Int} (h:0<=d/\d<=12) (h':0<=e/\e<=12) (he:bN d=bN e):d=e:=by
 have:=mName_inj ⟨d.toNat,by omega⟩ ⟨e.toNat,by omega⟩;simp only [show ((d.toNat:Nat):Int)=d from by omega,show ((e.toNat:Nat):Int)=e from by omega] at this;have:=congrArg Fin.val (this he);simp only at this;omega
theorem u7:∀ (L:List Int) (b:Int) (seen:List ByteArray),0<=b->(∀ d∈L,b<d/\d<=12)->L.Pairwise (·<·)->(∀ s∈seen,∃ j,0<=j/\j<=b/\s=bN j)->PC b seen (L.map fun d=>(d,bN d))=true
 | [],_,_,_,_,_,_=>rfl
 | d :: r,b,seen,hb,hd,hp,hs=>by
  have h1:=hd d yl;rw [List.pairwise_cons] at hp;simp only [yj,PC,y8,Bool.not_eq_true'];refine ⟨⟨⟨?_,?_⟩,mName_ok' (by omega)⟩,u7 r d (seen++[bN d]) (by omega) (fun e he=>⟨hp.1 e he,(hd e (yr _ he)).2⟩) hp.2 fun s ei=>?_⟩
  ·simp only [zS,y8,decide_eq_true_eq];omega
  ·refine jS fun fe=>?_
   obtain ⟨j,j0,j1,hj⟩:=hs _ fe;have:=mName_inj' (by omega) (by omega) hj;omega
  ·rcases yw.1 ei with ei | ei
   ·obtain ⟨j,j0,j1,hj⟩:=hs s ei;exact ⟨j,j0,by omega,hj⟩
   ·rw [yO] at ei;exact ⟨d,by omega,by omega,ei⟩
theorem wY (l:List jC) (i:Int) (rc:Bool) (ps:List KP):∀ n:Nat,∃ L:List Int,(QJ l i rc ps n).map eF=L.map (fun d=>(d,bN d))/\L.Pairwise (·<·)/\∀ d∈L,1<=d/\d<=(n:Int)
 | 0=>⟨[],rfl,List.Pairwise.nil,fun d h=>by cases h⟩
 | n + 1=>by
  obtain ⟨L,h1,h2,h3⟩:=wY l i rc ps n;rw [QJ,yU,h1];unfold lP;split
  ·refine ⟨L++[((n + 1:Nat):Int)],by simp [eF,TL],?_,fun d hd=>?_⟩
   ·rw [List.pairwise_append];refine ⟨h2,List.pairwise_singleton _ _,fun a ha b hb=>?_⟩;rw [yO] at hb;have:=h3 a ha;omega
   ·rcases yw.1 hd with hd | hd
    ·have:=h3 d hd; omega
    ·rw [yO] at hd; omega
  ·exact ⟨L,by simp,h2,fun d hd=>by have:=h3 d hd; omega⟩
theorem rwL_ents {n:Nat} {xs bs:List uC} (h:rwL n xs bs):bs.map eF=xs.map eF:=by
 refine List.ext_getElem (by simp [h.1]) fun i h1 h2=>?_
 simp only [yo] at h1 h2;have:=h.2 i xs[i] bs[i] (y4 h2) (y4 h1);simp only [List.getElem_map,eF,this.1,this.2.1]
theorem init_no {l:List jC} {t c:Int} (h:(LJ l t c).2=false):(LJ l t c).1=Vl.zero:=by
 unfold LJ at h ⊢;split at h
 ·rename_i hc;rw [if_pos hc];rfl
 ·cases h
theorem memZ_good (l:List jC) (i:Int) (rc:Bool) (id:Int) (p:KP):nB rc (TL l i rc id p)=true:=by
 by_cases h2:2<=p.flag % 4
 ·have h1:¬ p.flag % 4=1:=by omega
  cases rc with
  | false=>simp [nB,TL,Vl.same_refl]
  | true =>
   cases h3:(LJ l (PI l i p.ty) (p.flag / 4)).2 with
   | false=>simp [nB,TL,h1,h2,h3,init_no h3,Vl.same_refl]
   | true=>simp [nB,TL,h1,h2,h3]
 ·cases rc <;> simp [nB,TL,h2,Vl.same_refl]
theorem rwM_good {n:Nat} {rc:Bool} {a b:uC} (h:rwM n a b) (ha:nB rc a=true):nB rc b=true:=by
 obtain ⟨h1,h2,h3,h4⟩:=h;rcases h4 with rfl | ⟨_,_,h5,h6⟩
 ·exact ha
 ·simp only [nB,h3,h5,h6,Vl.same_refl] at ha ⊢;cases rc <;> cases hc:a.crit <;> simp [hc] at ha ⊢
theorem W0 {l:List jC} {i:Int} {rc:Bool} {ps:List KP} {n:Nat} {bs:List uC} (h:rwL n (PE l i rc ps) bs) (oa:rc=true\/bs≠[]):II rc bs=true:=by
 obtain ⟨L,h1,h2,h3⟩:=wY l i rc ps 12;have ia:bs.length<=12:=by rw [<- h.1]; exact CM l i rc ps 12
 have hents:PC 0 [] (bs.map eF)=true:=by
  rw [rwL_ents h,show (PE l i rc ps).map eF=_ from h1];exact u7 L 0 [] (by omega) (fun d hd=>by have:=h3 d hd; omega) h2 (fun s hs=>by cases hs)
 have ta:bs.all (nB rc)=true:=y5.2 fun b hb=>by
  obtain ⟨j,hj,rfl⟩:=yB hb;have jx:j<(PE l i rc ps).length:=by rw [h.1]; exact hj
  have hm:=h.2 j _ _ (y4 jx) (y4 hj);obtain ⟨id,p,_,_,_,_,he⟩:=HL 12 _ (y6 jx);refine rwM_good hm ?_;rw [he];exact memZ_good l i rc id p
 have db:rc=true\/0<bs.length:=oa.imp id fun h=>List.length_pos_iff.2 h
 simp only [II,ta,hents,Bool.true_and,y8,Bool.or_eq_true,decide_eq_true_eq];exact ⟨db,by omega⟩
theorem key_neg {l:List jC} {code:Int}:∀ n k,MF l code n k<0->(∀ m,0<=(code + (m:Int)) % l.length)->∀ m:Nat,k<=m->m<k + n->uV (dC l ((code + m) % l.length))=false
 | 0,k,_,_,m,h1,h2=>by omega
 | n + 1,k,h,hp,m,h1,h2=>by
  simp only [MF] at h;split at h
  ·have:=hp k; omega
  ·rename_i hk;by_cases e:m=k
   ·subst e;simpa using hk
   ·exact key_neg n (k + 1) h hp m (by omega) (by omega)
theorem key_is {l:List jC} {code:Int}:∀ n k,0<=MF l code n k->uV (dC l (MF l code n k))=true
 | 0,k,h=>by simp [MF] at h
 | n + 1,k,h=>by
  simp only [MF] at h ⊢;split
  ·assumption
  ·rename_i hk;rw [if_neg hk] at h;exact key_is n (k + 1) h
theorem keyZ_neg {l:List jC} (hl:oks l) {c:Int} (hc:0<=c) (h:aK l c<0) {z:Int} (h0:0<=z) (h1:z<l.length):uV (dC l z)=false:=by
 have hp:=hl.1;have hn:(l.length:Int)≠0:=by omega
 have db:∀ m,0<=(c + (m:Int)) % l.length:=fun m=>yL _ hn
 have:=key_neg (l:=l) (code:=c) l.length 0 h db ((z - c) % l.length).toNat (by omega) (by
  have:=yQ (z - c) (b:=(l.length:Int)) (by omega);omega)
 have h2:=yL (z - c) hn;rw [show (((z - c) % l.length).toNat:Int)=(z - c) % l.length from by omega,Int.add_emod_emod] at this;rw [show c + (z - c)=z from by omega,Int.emod_eq_of_lt h0 h1] at this;exact this
theorem XZ {l:List jC} (hl:oks l) {c d:Int} (hc:0<=c) (hd:0<=d) (h:aK l c<0):aK l d<0:=by
 by_cases h':aK l d<0
 ·exact h'
 ·have h1:=key_is (l:=l) (code:=d) l.length 0 (by simpa [aK] using h');have h2:=dP hl d l.length 0;have h3:=keyZ_neg hl hc h (z:=aK l d) (by omega) (by unfold aK; omega);unfold aK at h3;rw [h3] at h1;cases h1
structure TypD (l:List jC) (i:Nat) (b:dA):Prop where
 good:mB b=true
 nm:b.named=true->b.name=ZJ (i:Int)
 uses:∀ u∈b.usesL,0<=u/\u<l.length
 key:b.kind=8->uV (dC l b.key)=true
theorem PL {n:Nat} {bs:List uC} (h:rwL n [] bs):bs=[]:=yS h.1.symm
theorem K7 {l:List jC} (hl:oks l) {i:Nat} (hi:i<l.length) {rc:Bool} {ps:List KP} {bs:List uC} (h:rwL l.length (PE l (i:Int) rc ps) bs):∀ u∈bs.map uC.ty,0<=u/\u<l.length:=fun u hu=>by
 obtain ⟨b,hb,rfl⟩:=yA.1 hu;obtain ⟨j,hj,rfl⟩:=yB hb;have jx:j<(PE l (i:Int) rc ps).length:=by rw [h.1]; exact hj
 have hm:=h.2 j _ _ (y4 jx) (y4 hj);obtain ⟨id,p,_,_,_,hp,he⟩:=HL 12 _ (y6 jx);rcases hm.2.2.2 with h4 | ⟨h4,h5,_⟩
 ·rw [h4,he];simp only [xJ,decide_eq_true_eq] at hp;exact ⟨hp.2,(GP hl (i:Int) p.ty (by omega)).2⟩
 ·exact ⟨h4,h5⟩
theorem typ_d {l:List jC} (hl:oks l) {i:Nat} (hi:i<l.length) {b:dA} (h:rwT l.length (zB l (i:Int)) b):TypD l i b:=by
 obtain ⟨bs,pe,rfl⟩:=h;have hx:=nF hl hi;obtain ⟨xk,xa,xb,xc,_⟩:=i9 _ hx;have hl5:=hl.2.1;have hn:(l.length:Int)≠0:=by omega
 have su:=T7 hx;have ab:sF (ZJ (i:Int))=true:=N8 ⟨i,by omega⟩;have fb:tN (qI (GA l (i:Int)).a)=true:=by
  have:=symsZ_ok ⟨(GA l (i:Int)).a.toNat,by have:=xa.2; have:=xa.1; omega⟩
  rwa [show (((GA l (i:Int)).a.toNat:Nat):Int)=(GA l (i:Int)).a from by have:=xa.1; omega] at this
 have ko:0<=(GA l (i:Int)).c % l.length/\(GA l (i:Int)).c % l.length<l.length:=⟨yL _ hn,yQ _ (by omega)⟩;unfold zB at pe ⊢;generalize GA l (i:Int)=x at *
 by_cases k1:x.kind=1
 ·simp only [k1] at pe ⊢;obtain rfl:=PL pe;exact ⟨by simp [mB,JI,dA.left,dA.same,LB,dA.of,lB],fun h=>by simp [dA.named,dA.of] at h,fun u hu=>by simp [dA.usesL,dA.of] at hu,fun h=>by simp [dA.of] at h⟩
 by_cases k2:x.kind=2
 ·simp only [k2] at pe ⊢;obtain rfl:=PL pe;have hlh:x.low<=x.high:=by
   simp only [jC.high];have:=yL x.b (show (6:Int)≠0 by decide);omega
  exact ⟨by simp [mB,JI,dA.left,dA.same,LB,dA.of,lB,hlh],fun h=>by simp [dA.named,dA.of] at h,fun u hu=>by simp [dA.usesL,dA.of] at hu,fun h=>by simp [dA.of] at h⟩
 by_cases k3:x.kind=3
 ·simp only [k3] at pe ⊢;obtain rfl:=PL pe;exact ⟨by simp [mB,JI,dA.left,dA.same,LB,dA.of,lB]; omega,fun h=>by simp [dA.named,dA.of] at h,fun u hu=>by simp [dA.usesL,dA.of] at hu,fun h=>by simp [dA.of] at h⟩
 by_cases k4:x.kind=4
 ·simp only [k4] at pe ⊢;obtain rfl:=PL pe;exact ⟨by simp [mB,JI,dA.left,dA.same,LB,dA.of,lB,ab,fb],fun h=>by simp [dA.of],fun u hu=>by simp [dA.usesL,dA.of] at hu,fun h=>by simp [dA.of] at h⟩
 by_cases k5:x.kind=5
 ·simp only [k5] at pe ⊢;have hg:=W0 pe (.inl rfl);have hu:=K7 hl hi pe;exact ⟨by simp [mB,JI,dA.left,dA.same,LB,dA.of,lB,ab,hg],fun h=>by simp [dA.of],fun u h=>hu u (by simpa [dA.usesL,dA.of] using h),fun h=>by simp [dA.of] at h⟩
 by_cases k6:x.kind=6
 ·simp only [k6] at pe ⊢;by_cases he:(PE l (i:Int) false x.parts).isEmpty=true
  ·simp only [he,if_true] at pe ⊢;obtain rfl:=PL pe;exact ⟨by simp [mB,JI,dA.left,dA.same,LB,dA.of,lB,ab,II,PC],fun h=>by simp [dA.of],fun u hu=>by simp [dA.usesL,dA.of] at hu,fun h=>by simp [dA.of] at h⟩
  ·simp only [he,if_false,yq] at pe ⊢;have oa:bs≠[]:=fun e=>by
    rw [e] at pe;have:=pe.1;simp only [List.length_nil] at this;rw [yS this] at he;simp at he
   have hg:=W0 pe (.inr oa);have hu:=K7 hl hi pe;exact ⟨by simp [mB,JI,dA.left,dA.same,LB,dA.of,lB,ab,hg],fun h=>by simp [dA.of],fun u h=>hu u (by simpa [dA.usesL,dA.of] using h),fun h=>by simp [dA.of] at h⟩
 by_cases k7:x.kind=7
 ·simp only [k7] at pe ⊢;obtain rfl:=PL pe;exact ⟨by simp [mB,JI,dA.left,dA.same,LB,dA.of,lB]; omega,fun h=>by simp [dA.named,dA.of] at h,fun u hu=>by simp [dA.usesL,dA.of] at hu; rw [hu]; exact ko,fun h=>by simp [dA.of] at h⟩
 by_cases k8:x.kind=8
 ·simp only [k8] at pe ⊢;by_cases hc:aK l x.b<0
  ·simp only [if_pos hc] at pe ⊢;obtain rfl:=PL pe;exact ⟨by simp [mB,JI,dA.left,dA.same,LB,dA.of,lB]; omega,fun h=>by simp [dA.named,dA.of] at h,fun u hu=>by simp [dA.usesL,dA.of] at hu; rw [hu]; exact ko,fun h=>by simp [dA.of] at h⟩
  ·simp only [if_neg hc] at pe ⊢;obtain rfl:=PL pe;have su:=dP hl x.b l.length 0;refine ⟨by simp [mB,JI,dA.left,dA.same,LB,dA.of,lB]; omega,fun h=>by simp [dA.named,dA.of] at h,fun u hu=>?_,fun h=>key_is l.length 0 (by simpa [aK] using hc)⟩;simp [dA.usesL,dA.of] at hu;rcases hu with rfl | rfl
   ·exact ⟨by omega,su.2⟩
   ·exact ko
 have k9:x.kind=9:=by omega
 simp only [k9] at pe ⊢;obtain rfl:=PL pe;exact ⟨by simp [mB,JI,dA.left,dA.same,LB,dA.of,lB],fun h=>by simp [dA.named,dA.of] at h,fun u hu=>by simp [dA.usesL,dA.of] at hu; rw [hu]; exact ko,fun h=>by simp [dA.of] at h⟩
theorem kdAt_nd (l:List jC) {j:Nat} (hj:j<l.length):dC l (j:Int)=(GA l (j:Int)).kind:=by
 simp [dC,GA,y4 hj]
theorem pQ (l:List jC) {j:Nat} (hj:j<l.length):(zB l (j:Int)).kind=(if dC l (j:Int)=6/\(PE l (j:Int) false (GA l (j:Int)).parts).isEmpty=true then 5 else if dC l (j:Int)=8/\aK l (GA l (j:Int)).b<0 then 7 else if 1<=dC l (j:Int)/\dC l (j:Int)<=8 then dC l (j:Int) else 9):=by
 rw [kdAt_nd l hj];unfold zB;generalize GA l (j:Int)=x;simp only;split
 ·rename_i h; simp [h,dA.of]
 ·rename_i h; simp [h,dA.of]
 ·rename_i h; simp [h,dA.of]
 ·rename_i h; simp [h,dA.of]
 ·rename_i h; simp [h,dA.of]
 ·rename_i h;split
  ·rename_i h'; simp [h,h',dA.of]
  ·rename_i h'; simp [h,h',dA.of]
 ·rename_i h; simp [h,dA.of]
 ·rename_i h;split
  ·rename_i h'; simp [h,h',dA.of]
  ·rename_i h'; simp [h,h',dA.of]
 ·rename_i h1 h2 h3 h4 h5 h6 h7 h8;have e6:¬ x.kind=6:=h6;have e8:¬ x.kind=8:=h8;have hr:¬ (1<=x.kind/\x.kind<=8):=fun ⟨a,b⟩=>by
   have q1:¬ x.kind=1:=h1;have q2:¬ x.kind=2:=h2;have q3:¬ x.kind=3:=h3;have q4:¬ x.kind=4:=h4;have q5:¬ x.kind=5:=h5;have q7:¬ x.kind=7:=h7;omega
  simp [e6,e8,hr,dA.of]
theorem aT {n:Nat} {l:List jC} {T:List dA} (h:rwS n (RA l) T):T.length=l.length:=by
 have:=h.1;simp [RA] at this;exact this.symm
theorem iQ {l:List jC} {T:List dA} (h:rwS l.length (RA l) T) {i:Nat} (hi:i<T.length):rwT l.length (zB l (i:Int)) T[i]:=by
 have ac:i<l.length:=by rw [<- aT h]; exact hi
 exact h.2 i _ _ (by simp [RA,ac]) (y4 hi)
theorem zY {n:Nat} {a b:dA} (h:rwT n a b):b.kind=a.kind:=by
 obtain ⟨bs,_,rfl⟩:=h;rfl
theorem gT {l:List dA} (h:∀ i,(hi:i<l.length)->SC l i l[i]=0):∀ n i,GC l n i=0
 | 0,i=>rfl
 | n + 1,i=>by
  rw [GC];by_cases hi:i<l.length
  ·rw [y4 hi];simp only [h i hi,if_true];exact gT h n (i + 1)
  ·rw [yP (by omega)]
theorem TU {l:List jC} (hl:oks l) {T:List dA} (h:rwS l.length (RA l) T):valid T=0:=by
 have hl5:=hl.2.1;have ia:=aT h;unfold valid;rw [if_neg (by omega)];refine gT (fun i hi=>?_) _ _;have hd:∀ j,(hj:j<T.length)->TypD l j T[j]:=fun j hj=>typ_d hl (by omega) (iQ h hj)
 obtain ⟨hg,ab,hu,hk⟩:=hd i hi;unfold SC;rw [if_neg (by rw [hg]; decide)];rw [if_neg]
 ·rw [if_neg]
  ·rw [if_neg];rintro ⟨h8,hn⟩;have bc:=hk h8;have huk:=hu T[i].key (by simp [dA.usesL,h8]);have nj:T[i].key.toNat<T.length:=by omega
   apply hn;unfold RI;rw [y4 nj];simp only;rw [zY (iQ h nj),pQ l (by omega)];rw [show ((T[i].key.toNat:Nat):Int)=T[i].key from by omega];simp only [uV,decide_eq_true_eq] at bc;rw [if_neg (by omega),if_neg (by omega),if_pos (by omega)];exact bc
  ·intro hany;obtain ⟨u,ra,ho⟩:=List.any_eq_true.1 hany;have:=hu u ra;simp only [cB,Bool.or_eq_true,decide_eq_true_eq] at ho;omega
 ·rintro ⟨hn,ra⟩;rw [yA] at ra;obtain ⟨b,hb,he⟩:=ra;obtain ⟨j,hj,rfl⟩:=yB hb;rw [yz] at hj;rw [List.getElem_take] at he;have hjT:j<T.length:=by omega
  obtain ⟨hgj,hnmj,_,_⟩:=hd j hjT;rw [ab hn] at he;have hbn:T[j].named=true:=by
   cases hc:T[j].named with
   | true=>rfl
   | false =>
    have ac:=N8 ⟨i,by omega⟩;simp only at ac;rw [<- he] at ac;have nc:T[j].name=⟨#[]⟩:=by
     unfold mB at hgj;simp only [dA.named,Bool.or_eq_false_iff,decide_eq_false_iff_not] at hc;simp only [y8,decide_eq_true_eq] at hgj;have hs:=hgj.2.2;unfold dA.left at hs;obtain ⟨⟨c4,c5⟩,c6⟩:=hc;simp only [c4,c5,c6,if_false] at hs;split at hs
     ·simp only [dA.same,LB,y8,decide_eq_true_eq] at hs; exact of_decide_eq_true hs.1.1.1.1.1.1.1.1.2
     ·split at hs
      ·simp only [dA.same,LB,y8,decide_eq_true_eq] at hs; exact of_decide_eq_true hs.1.1.1.1.1.1.1.1.2
      ·split at hs
       ·simp only [dA.same,LB,y8,decide_eq_true_eq] at hs; exact of_decide_eq_true hs.1.1.1.1.1.1.1.1.2
       ·split at hs
        ·simp only [dA.same,LB,y8,decide_eq_true_eq] at hs; exact of_decide_eq_true hs.1.1.1.1.1.1.1.1.2
        ·split at hs
         ·simp only [dA.same,LB,y8,decide_eq_true_eq] at hs; exact of_decide_eq_true hs.1.1.1.1.1.1.1.1.2
         ·simp only [dA.same,LB,y8,decide_eq_true_eq] at hs; exact of_decide_eq_true hs.1.1.1.1.1.1.1.1.2
    rw [nc] at ac;exact absurd ac (by decide)
  have:=tName_inj ⟨j,by omega⟩ ⟨i,by omega⟩ (by simp only; rw [<- hnmj hbn,he]);have:=congrArg Fin.val this;simp only at this;omega
theorem W7 {α:Type} (p:α->Bool):∀ l:List α,(∃ x∈l,p x=true)->0<=IB p l
 | [],h=>by obtain ⟨x,hx,_⟩:=h; cases hx
 | x :: r,h=>by
  have hg:=wF p r;unfold IB;by_cases hp:p x=true
  ·rw [if_pos hp]; exact Int.le_refl 0
  ·rw [if_neg hp];have:0<=IB p r:=W7 p r (by
    obtain ⟨y,hy,hpy⟩:=h;rcases yh.1 hy with rfl | hy
    ·exact absurd hpy hp
    ·exact ⟨y,hy,hpy⟩)
   rw [if_neg (by omega)];omega
theorem idAt_mem (a c:Int) (hc:0<=c):0<=xG (qI a) (idAt a c):=by
 have ia:=xS a;have hn:((qF a).length:Int)≠0:=by omega
 have h0:=yL c hn;have h1:=yQ c (b:=((qF a).length:Int)) (by omega);have fa:(c % (qF a).length).toNat<(qF a).length:=by omega
 refine W7 _ _ ⟨⟨idAt a c,sName (idAt a c)⟩,?_,by simp⟩;unfold qI;refine yA.2 ⟨idAt a c,?_,rfl⟩;unfold idAt;rw [y4 fa];exact y6 fa
theorem init_plain {l:List jC} (hl:oks l) {T:List dA} (h:rwS l.length (RA l) T) {t c:Int} (ht:0<=t/\t<l.length) (hc:0<=c) (hi:(LJ l t c).2=true):OI T t (LJ l t c).1=true:=by
 have ia:=aT h;have hjT:t.toNat<T.length:=by omega
 have nh:t.toNat<l.length:=by omega
 have pe:=iQ h hjT;have jl:((t.toNat:Nat):Int)=t:=by omega
 have zb:=pQ l nh;rw [jl] at pe zb;have hx:=nF hl nh;rw [jl] at hx;have su:=E7 hl ht.1 ht.2;have eh:dC l t=(GA l t).kind:=by rw [<- jl]; exact kdAt_nd l nh
 obtain ⟨xk,xa,xb,xc,_⟩:=i9 _ hx;unfold OI;unfold gG;have ho:cB T.length t=false:=by simp [cB]; omega
 rw [ho,y4 hjT];generalize hf:gG T _=f;clear hf;have hk:=zY pe;rw [zb] at hk;unfold LJ at hi ⊢;by_cases ul:dC l t=5\/dC l t=6
 ·rw [if_pos ul] at hi; cases hi
 rw [if_neg ul];have e6:¬ (dC l t=6/\(PE l t false (GA l t).parts).isEmpty=true):=fun e=>ul (.inr e.1)
 rw [if_neg e6] at hk;obtain ⟨bs,tv,hb⟩:=pe;rw [hb] at hk ⊢;simp only [Bool.not_false,Bool.true_and];have fe:inK l t=(zB l t).kind:=by
  unfold inK;by_cases h8:dC l t=8
  ·by_cases hn:aK l 0<0
   ·have zh:=XZ hl (by omega) xb.1 hn;rw [if_pos ⟨h8,hn⟩];rw [if_pos ⟨h8,zh⟩] at hk;exact hk.symm
   ·have zh:¬ aK l (GA l t).b<0:=fun q=>hn (XZ hl xb.1 (by omega) q)
    rw [if_neg (fun q=>hn q.2)];rw [if_neg (fun q=>zh q.2),if_pos (by omega)] at hk;exact hk.symm
  ·rw [if_neg (fun q=>h8 q.1)];rw [if_neg (fun q=>h8 q.1)] at hk;by_cases h9:dC l t<=8
   ·rw [if_pos ⟨by omega,h9⟩] at hk; exact hk.symm
   ·rw [if_neg (fun q=>h9 q.2)] at hk;show dC l t=_;have:(zB l t).kind=9:=hk;omega
 rw [fe];have hzV:∀ (k:Int) (b:Bool) (i:Int) (s:ByteArray) (d:Int),(k=1\/b=false)->(k=2\/i=0)->(k=3\/s=⟨#[]⟩)->(k=4\/k=6\/d=0)->rE (Vl.of k b i s d)=true:=fun k b i s d h1 h2 h3 h4=>by
  simp only [rE,Vl.of,Vl.kind,Vl.b,Vl.i,Vl.s,Vl.id,Vl.keys,Vl.items,Vl.rest,List.isEmpty_nil,Bool.or_true,Bool.and_true,y8,Bool.or_eq_true,decide_eq_true_eq,Bool.not_eq_true',or_assoc];exact ⟨h1.imp (fun h=>decide_eq_true h) id,h2.imp (fun h=>decide_eq_true h) (fun h=>decide_eq_true h),h3.imp (fun h=>decide_eq_true h) (fun h=>decide_eq_true h),h4.imp (fun h=>decide_eq_true h) (Or.imp (fun h=>decide_eq_true h) (fun h=>decide_eq_true h))⟩
 by_cases k1:dC l t=1
 ·have hz:(zB l t).kind=1:=by simp [zB,<- eh,k1,dA.of]
  rw [hz];simp [Vl.of,Vl.kind,ST,rE,Vl.b,Vl.i,Vl.s,Vl.id,Vl.keys,Vl.items,Vl.rest,k1]
 by_cases k2:dC l t=2
 ·have hz:(zB l t).kind=2:=by simp [zB,<- eh,k2,dA.of]
  have hlo:(zB l t).low=(GA l t).low:=by simp [zB,<- eh,k2,dA.of]
  have tr:(zB l t).high=(GA l t).high:=by simp [zB,<- eh,k2,dA.of]
  rw [hz,hlo,tr];have h1:=yL c (show (GA l t).b % 6 + 1≠0 by have:=xb.1; omega);have h2:=yQ c (show 0<(GA l t).b % 6 + 1 by have:=xb.1; omega);have h3:(GA l t).low<=(GA l t).low + c % ((GA l t).b % 6 + 1):=by omega
  have h4:(GA l t).low + c % ((GA l t).b % 6 + 1)<=(GA l t).high:=by simp only [jC.high]; omega
  simp [Vl.of,Vl.kind,ST,rE,Vl.b,Vl.i,Vl.s,Vl.id,Vl.keys,Vl.items,Vl.rest,k2,h3,h4,h1]
 by_cases k3:dC l t=3
 ·have hz:(zB l t).kind=3:=by simp [zB,<- eh,k3,dA.of]
  have wu:(zB l t).max=(GA l t).a % 4:=by simp [zB,<- eh,k3,dA.of]
  have h0:0<=(GA l t).a % 4:=by omega
  have hs0:(⟨#[]⟩:ByteArray).size=0:=rfl;have eo:(⟨#[97]⟩:ByteArray).size=1:=rfl;rw [hz,wu];by_cases hq:0<(GA l t).a % 4/\c % 2=1
  ·have h1:1<=(GA l t).a % 4:=by omega
   simp [Vl.of,Vl.kind,ST,rE,Vl.b,Vl.i,Vl.s,Vl.id,Vl.keys,Vl.items,Vl.rest,k3,hq,eo,h1]
  ·simp [Vl.of,Vl.kind,ST,rE,Vl.b,Vl.i,Vl.s,Vl.id,Vl.keys,Vl.items,Vl.rest,k3,hq,hs0,h0]
 by_cases k4:dC l t=4
 ·have hz:(zB l t).kind=4:=by simp [zB,<- eh,k4,dA.of]
  have fb:(zB l t).syms=qI (GA l t).a:=by simp [zB,<- eh,k4,dA.of]
  have hm:=idAt_mem (GA l t).a c hc;rw [hz,fb];simp [Vl.of,Vl.kind,ST,rE,Vl.b,Vl.i,Vl.s,Vl.id,Vl.keys,Vl.items,Vl.rest,k4,hm]
 have hz:7<=(zB l t).kind/\(zB l t).kind<=9:=by
  rw [zb,if_neg e6];split
  ·omega
  ·split <;> omega
 have wu:(zB l t).kind<=8->0<=(zB l t).max:=fun h8=>by
  by_cases k7:dC l t=7
  ·have:(zB l t).max=(GA l t).a % 4:=by simp [zB,<- eh,k7,dA.of]
   omega
  by_cases k8:dC l t=8
  ·by_cases hc:aK l (GA l t).b<0
   ·have:(zB l t).max=(GA l t).a % 4:=by simp [zB,<- eh,k8,hc,dA.of]
    omega
   ·have:(zB l t).max=(GA l t).a % 4:=by simp [zB,<- eh,k8,hc,dA.of]
    omega
  have k9:dC l t=9:=by omega
  have:(zB l t).kind=9:=by simp [zB,<- eh,k9,dA.of]
  omega
 generalize (zB l t).kind=kk at *
 have q1:¬ kk=1:=by omega
 have q2:¬ kk=2:=by omega
 have q3:¬ kk=3:=by omega
 have q4:¬ kk=4:=by omega
 have q5:¬ kk=5:=by omega
 have q6:¬ kk=6:=by omega
 have um:ST f { kind:=kk,name:=(zB l t).name,low:=(zB l t).low,high:=(zB l t).high,max:=(zB l t).max,sn:=(zB l t).sn,syms:=(zB l t).syms,mn:=bs.isEmpty,mems:=bs,key:=(zB l t).key,elem:=(zB l t).elem,opn:=(zB l t).opn } (Vl.of kk false 0 ⟨#[]⟩ 0)=true:=by
  simp only [ST,q1,q2,q3,q4,q5,q6,if_false,Vl.of,Vl.items,Vl.keys];by_cases k7:kk=7
  ·simp [k7,wu (by omega)]
  by_cases k8:kk=8
  ·simp [k8,wu (by omega),NM]
  simp [k7,k8]
 simp only [k1,k2,k3,k4,false_and,if_false,decide_false];rw [hzV kk false 0 ⟨#[]⟩ 0 (.inr rfl) (.inr rfl) (.inr rfl) (.inr (.inr rfl)),um];simp [Vl.of,Vl.kind]
theorem TW {S:List dA} (h:∀ t∈S,ZH S t=none):∀ n i,bD S n i=none
 | 0,i=>rfl
 | n + 1,i=>by
  rw [bD];cases hi:S[i]? with
  | none=>rfl
  | some t =>
   simp only [h t (yk hi)];exact TW h n (i + 1)
theorem rwS_err {l:List jC} (hl:oks l) {T:List dA} (h:rwS l.length (RA l) T):uE T=0:=by
 unfold uE;rw [if_pos (TU hl h),TW fun t ht=>?_];obtain ⟨i,hi,rfl⟩:=yB ht;have og:i<l.length:=by rw [<- aT h]; exact hi
 unfold ZH;rw [Option.map_eq_none_iff,List.find?_eq_none];intro m hm;obtain ⟨bs,tv,hb⟩:=iQ h hi;have jd:m∈bs:=by rw [hb] at hm; exact hm
 obtain ⟨j,hj,rfl⟩:=yB jd;have jx:j<(zB l (i:Int)).mems.length:=by rw [tv.1]; exact hj
 have hr:=tv.2 j _ _ (y4 jx) (y4 hj);unfold ML;rcases hr.2.2.2 with h4 | ⟨_,_,h5,_⟩
 ·rw [h4];have hmz:∃ rc id p,p.ok/\xJ l (i:Int) id p=true/\(zB l (i:Int)).mems[j]=TL l (i:Int) rc id p:=by
   have ra:=y6 jx;generalize (zB l (i:Int)).mems[j]=m at *
   have hx:=nF hl og;unfold zB at ra;generalize GA l (i:Int)=x at *
   have hp:∀ rc,m∈PE l (i:Int) rc x.parts->∃ rc id p,p.ok/\xJ l (i:Int) id p=true/\m=TL l (i:Int) rc id p:=fun rc ra=>by
    obtain ⟨id,p,_,_,h1,h2,h3⟩:=HL 12 m ra;exact ⟨rc,id,p,hx.2.2.2.2.2 p h1,h2,h3⟩
   simp only at ra;split at ra <;> first | (simp [dA.of] at ra; done) | exact hp _ ra | skip
   all_goals split at ra <;> first | (simp [dA.of] at ra; done) | exact hp _ ra
  obtain ⟨rc,id,p,zl,hp,he⟩:=hmz;rw [he];simp only [xJ,decide_eq_true_eq] at hp;have cq:=GP hl (i:Int) p.ty (by omega);cases hh:(TL l (i:Int) rc id p).has with
  | false=>simp
  | true =>
   simp only [TL,y8,decide_eq_true_eq] at hh;have:=init_plain hl h ⟨hp.2,cq.2⟩ (c:=p.flag / 4) (by have:=zl.2.2.1; omega) hh.2;simp [TL,hh.1,this]
 ·simp [h5]
theorem b8 {w:GE}:∀ (l:List uC) (c:Int),(∀ m∈l,1<=w m.ty.toNat)->1<=c->1<=kO w l c
 | [],c,_,hc=>hc
 | x :: r,c,hm,hc=>by
  rw [kO];have h1:=hm x yl;have h2:1 * 1<=c * w x.ty.toNat:=Int.mul_le_mul hc h1 (by decide) (by omega);exact b8 r _ (fun m h=>hm m (yr _ h)) (by omega)
theorem sumF_ge {w:GE}:∀ (l:List uC) (c:Int),(∀ m∈l,0<=w m.ty.toNat)->c<=CV w l c/\((∃ m∈l,1<=w m.ty.toNat)->c + 1<=CV w l c)
 | [],c,_=>⟨Int.le_refl _,fun h=>by obtain ⟨m,hm,_⟩:=h; cases hm⟩
 | x :: r,c,hm=>by
  rw [CV];have h0:=hm x yl;obtain ⟨h1,h2⟩:=sumF_ge r (c + w x.ty.toNat) fun m h=>hm m (yr _ h)
  refine ⟨by omega,fun h=>?_⟩;obtain ⟨m,ra,hp⟩:=h;rcases yh.1 ra with rfl | ra
  ·omega
  ·have:=h2 ⟨m,ra,hp⟩;omega
theorem mZ {N:Nat} {w:GE} (hw:iM N w) {x:dA} (hx:dD N x) (hg:mB x=true) (h5:x.kind≠5) (h6:x.kind≠6):1<=NE x w:=by
 unfold NE;by_cases h2:x.kind=2
 ·rw [if_pos h2]; split <;> omega
 rw [if_neg h2];by_cases h3:x.kind=3
 ·rw [if_pos h3]; split <;> omega
 rw [if_neg h3];by_cases h4:x.kind=4
 ·rw [if_pos h4];unfold mB at hg;rw [y8,y8] at hg;have ho:=hg.2.1;unfold JI at ho;rw [if_neg h2,if_neg h3,if_pos h4,y8] at ho;have hs:=ho.2;unfold tN at hs;rw [y8] at hs;have:=of_decide_eq_true hs.1;omega
 rw [if_neg h4,if_neg h5,if_neg h6];by_cases h7:x.kind=7
 ·rw [if_pos h7]; split <;> omega
 rw [if_neg h7];by_cases h8:x.kind=8
 ·rw [if_pos h8]; split <;> omega
 rw [if_neg h8];by_cases h9:x.kind=9
 ·rw [if_pos h9];have:=hx.elem (by omega);have:=hw x.elem.toNat (by omega);omega
 rw [if_neg h9];omega
theorem typZ_mn (l:List jC) (i:Int):(zB l i).mn=(zB l i).mems.isEmpty:=by
 unfold zB;generalize GA l i=x;simp only;split
 all_goals first | rfl | skip
 ·split
  ·rfl
  ·rename_i h; simp only [dA.of]; simpa using h
 ·split <;> rfl
theorem dM (l:List jC):rwS l.length (RA l) (RA l):=by
 refine ⟨rfl,fun i a b ha hb=>?_⟩;rw [ha] at hb;injection hb with hb;subst hb;have hm:a.mn=a.mems.isEmpty:=by
  obtain ⟨hi,rfl⟩:=yb.1 ha;simp only [RA,List.getElem_map,List.getElem_range];exact typZ_mn l _
 exact ⟨a.mems,G8 _ _,by rw [<- hm]⟩
theorem frz_typsI {l:List jC} {L:List (List AV)} {s:pA} (h:ZI (RA l) L s) {t N c:Nat} (hm:s.mem t N=some (sA L)):AV.frz0 s (.ref t N 10 0 L.length c)=.sl false ((RA l).map rA):=by
 have hL:(L.map fun c=>c.map (AV.frz1 s))=(RA l).map rA:=by
  refine List.ext_getElem (by simp [h.1]) fun i h1 h2=>?_
  have hi:i<(RA l).length:=by simpa using h2
  have hiL:i<L.length:=by simpa using h1
  obtain ⟨m,g1,g2⟩:=h.2 i _ _ (y4 hi) (y4 hiL);simp only [List.getElem_map];rw [g1];have hmn:(RA l)[i].mn=(RA l)[i].mems.isEmpty:=by
   simp only [RA,List.getElem_map,List.getElem_range];exact typZ_mn l _
  have hc:AV.frz1 s m=.sl (RA l)[i].mn ((RA l)[i].mems.map bA):=by
   rw [hmn];rcases g2 with ⟨e,rfl⟩ | ⟨M,oa,_,rfl,hM⟩
   ·rw [e]; rfl
   ·have bg:(RA l)[i].mems.isEmpty=false:=by simpa using oa
    have:=nG (sz:=13) (wW (RA l)[i].mems) (Q0 (RA l)[i].mems);simp only [yo] at this;simp only [AV.frz1,hM,V,this,bg]
  rw [<- typL_C];simp only [dF,yj,yt,hc];rfl
 rw [frz_row (h.toR 0).els hm (by rw [hL]; simp [rA,AV.free0]),hL]
theorem of07_ev {dn:Bool} {l:List jC} (hx:∀ x∈l,x.ok):(oks l/\fA 34 [.agg (OF dn l)] (.tup [.agg [.sl false ((RA l).map rA)],.bool true]))\/(¬ oks l/\fA 34 [.agg (OF dn l)] (.tup [.agg [.sl true []],.bool false])):=by
 have md:iF.res=[.cell 2 true 1,.tmp 3]:=rfl;by_cases hl:1<=l.length/\l.length<=5
 ·left;refine ⟨⟨hl.1,hl.2,hx⟩,?_⟩;refine wA (c:=iF) rfl rfl ?_;refine of_run (dn:=dn) ⟨hl.1,hl.2,hx⟩ _ rfl (fun t n row h=>by cases h) (fun t n row _ h=>by cases h) ?_ ?_ ?_ _ (fun s' h=>?_)
  ·intro t;rcases t with _ | t
   ·exact fX (fun c hc=>by simp only [OF,yO] at hc; subst hc; exact qQ rfl)
   ·exact fun _ _ _=>rfl
  ·exact fun t _ _ _=>rfl
  ·exact fun t=>rT _
  ·obtain ⟨hc,e2,e3,lt,N,L,h2,hN,fa,rk,hL,hT⟩:=h;have g2:=frz_typsI hT (c:=l.length) rk;rw [hL] at g2;have bm:(s'.env 2).v=.ptr 2 1 0:=e2;have tl:s'.mem 2 1=some [⟨.ref 168 N 10 0 l.length l.length,.no⟩]:=h2;have f1:AV.frz s' (.agg [.ref 168 N 10 0 l.length l.length])=.agg [.sl false ((RA l).map rA)]:=by simp only [AV.frz,yj,yt,g2]
   have f2:AV.frz s' (.bool true)=.bool true:=rfl;simp [XN,md,tT,bm,e3,tl,wB,f1,f2,GW,AV.free,AV.free0,ZV,-AV.frz,-AV.frz0]
 ·right;refine ⟨fun h=>hl ⟨h.1,h.2.1⟩,?_⟩;refine wA (c:=iF) rfl rfl ?_;refine of_bad hl _ rfl (fun t n row h=>by cases h) _ (fun s' hc e2 e3 h2=>?_);have bm:(s'.env 2).v=.ptr 2 1 0:=e2;have tl:s'.mem 2 1=some [⟨.sl true [],.no⟩]:=h2;simp [XN,md,tT,bm,e3,tl,wB,GW,AV.free,AV.free0,ZV]
theorem EY {l:List jC} (hl:oks l) {i:Nat} (hi:i<l.length) {m:uC} (ra:m∈(zB l (i:Int)).mems):∃ rc id p,p.ok/\xJ l (i:Int) id p=true/\m=TL l (i:Int) rc id p:=by
 have hx:=nF hl hi;unfold zB at ra;generalize GA l (i:Int)=x at *
 have hp:∀ rc,m∈PE l (i:Int) rc x.parts->∃ rc id p,p.ok/\xJ l (i:Int) id p=true/\m=TL l (i:Int) rc id p:=fun rc ra=>by
  obtain ⟨id,p,_,_,h1,h2,h3⟩:=HL 12 m ra;exact ⟨rc,id,p,hx.2.2.2.2.2 p h1,h2,h3⟩
 simp only at ra;split at ra <;> first | (simp [dA.of] at ra; done) | exact hp _ ra | skip
 all_goals split at ra <;> first | (simp [dA.of] at ra; done) | exact hp _ ra
theorem dflt_kind {l:List jC} (hl:oks l) {T:List dA} (h:rwS l.length (RA l) T):∀ j,(hj:j<T.length)->∀ m∈T[j].mems,m.has=true->∀ y,T[m.ty.toNat]?=some y->y.kind≠5/\y.kind≠6:=fun j hj m hm hh y hy=>by
 have nh:j<l.length:=by rw [<- aT h]; exact hj
 obtain ⟨bs,tv,hb⟩:=iQ h hj;have jd:m∈bs:=by rw [hb] at hm; exact hm
 obtain ⟨i,hi,rfl⟩:=yB jd;have hia:i<(zB l (j:Int)).mems.length:=by rw [tv.1]; exact hi
 have hr:=tv.2 i _ _ (y4 hia) (y4 hi);rcases hr.2.2.2 with h4 | ⟨_,_,h5,_⟩
 ·obtain ⟨rc,id,p,zl,hp,he⟩:=EY hl nh (y6 hia);rw [h4,he] at hh hy;simp only [xJ,decide_eq_true_eq] at hp;have cq:=GP hl (j:Int) p.ty (by omega);simp only [TL,y8] at hh hy;have h2:=hh.2;unfold LJ at h2;split at h2
  ·cases h2
  ·rename_i hk;obtain ⟨ht,tb⟩:=yb.1 hy;have htl:(PI l (j:Int) p.ty).toNat<l.length:=by omega
   have zb:=pQ l htl;have e1:(((PI l (j:Int) p.ty).toNat:Nat):Int)=PI l (j:Int) p.ty:=by omega
   have hrt:=zY (iQ h ht);rw [e1] at zb hrt;rw [<- tb,hrt,zb];rw [if_neg (fun q=>hk (.inr q.1))];split
   ·decide
   ·split
    ·constructor <;> omega
    ·decide
 ·rw [h5] at hh; cases hh
theorem hol_ge {l:List jC}:∀ n k,0<=bF l n k->7<=dC l (bF l n k)
 | 0,k,h=>by simp [bF] at h
 | n + 1,k,h=>by
  rw [bF] at h ⊢;by_cases c:7<=dC l k
  ·rw [if_pos c]; exact c
  ·rw [if_neg c] at h ⊢; exact hol_ge n (k + 1) h
theorem tgt_early {l:List jC} (i code:Int) (h:0<=PI l i code):7<=dC l (PI l i code)\/PI l i code<i:=by
 unfold PI at h ⊢;split
 ·rename_i c; exact c
 ·rename_i c;rw [if_neg c] at h;split
  ·rename_i c2; exact .inr (yQ _ c2)
  ·rename_i c2; rw [if_neg c2] at h; exact .inl (hol_ge _ _ h)
theorem typZ_ne {l:List jC} {i:Int} (h:(zB l i).kind=6):(zB l i).mems≠[]:=by
 unfold zB at h ⊢;generalize GA l i=x at *
 simp only at h ⊢;split at h
 all_goals first | (simp [dA.of] at h; done) | skip
 ·rename_i hk;split at h
  ·simp [dA.of] at h
  ·rename_i hn; rw [if_neg hn]; simpa using hn
 ·split at h <;> simp [dA.of] at h
theorem draft_pos {l:List jC} (hl:oks l) {w:GE} (hw:aQ (RA l).length (FP (RA l)) w) (fw:∀ j,j<(RA l).length->FP (RA l) j w=w j):∀ j,j<(RA l).length->1<=w j:=by
 have jq:=TU hl (dM l);have hW:=ZD jq;intro j
 induction j using Nat.strongRecOn with
 | ind j ih =>
  intro hj;have nh:j<l.length:=by simpa [RA] using hj
  have hx:(RA l)[j]=zB l (j:Int):=by simp [RA]
  have hWj:=hW _ (y6 hj);have hG:mB (RA l)[j]=true:=(XH (WG jq j hj)).1;have h:=fw j hj;unfold FP at h;rw [y4 hj] at h;simp only at h;have ra:∀ m∈(RA l)[j].mems,1<=w m.ty.toNat:=fun m hm=>by
   rw [hx] at hm;obtain ⟨rc,id,p,zl,hp,rfl⟩:=EY hl nh hm;simp only [xJ,decide_eq_true_eq] at hp;have cq:=GP hl (j:Int) p.ty (by omega);have hdl:(RA l).length=l.length:=by simp [RA]
   show 1<=w (PI l (j:Int) p.ty).toNat;rcases tgt_early (j:Int) p.ty hp.2 with h7 | fa
   ·have htl:(PI l (j:Int) p.ty).toNat<l.length:=by omega
    have zb:=pQ l htl;have e1:(((PI l (j:Int) p.ty).toNat:Nat):Int)=PI l (j:Int) p.ty:=by omega
    have hy:(RA l)[(PI l (j:Int) p.ty).toNat]'(by omega)=zB l (((PI l (j:Int) p.ty).toNat:Nat):Int):=by simp [RA]
    have hk7:7<=(zB l (((PI l (j:Int) p.ty).toNat:Nat):Int)).kind:=by
     rw [zb,e1,if_neg (by omega)];split
     ·omega
     ·split <;> omega
    have hf:=fw (PI l (j:Int) p.ty).toNat (by omega);unfold FP at hf;rw [y4 (by omega)] at hf;simp only at hf;have hc:=mZ hw.rng (hW _ (y6 (show (PI l (j:Int) p.ty).toNat<(RA l).length by omega))) (XH (WG jq _ (by omega))).1 (by rw [hy]; omega) (by rw [hy]; omega);omega
   ·exact ih _ (by omega) (by omega)
  have key:1<=NE (RA l)[j] w:=by
   by_cases h5:(RA l)[j].kind=5
   ·unfold NE;simp only [h5];exact b8 _ _ ra (by decide)
   by_cases h6:(RA l)[j].kind=6
   ·unfold NE;simp only [h6];have oa:(RA l)[j].mems≠[]:=by
     rw [hx] at h6 ⊢;exact typZ_ne h6
    obtain ⟨m,hm⟩:=List.exists_mem_of_ne_nil _ oa;have:=(sumF_ge (w:=w) (RA l)[j].mems 0 (fun m hm=>by have:=ra m hm; omega)).2 ⟨m,hm,ra m hm⟩;simpa using this
   exact mZ hw.rng hWj hG h5 h6
  omega
theorem b4 {w:GE}:∀ {n:Nat},(∀ j,j<n->1<=w j)->QH w n=true
 | 0,_=>rfl
 | n + 1,h=>by
  unfold QH;rw [b4 (n:=n) (fun j hj=>h j (by omega)),decide_eq_true (by have:=h n (by omega); omega)];rfl
theorem JK {l:List jC} (hl:oks l):HR ⟨false,RA l⟩ 0:=by
 obtain ⟨hf,h6⟩:=rwS_ok hl (dM l);have th:=rwS_err hl (dM l);obtain ⟨w,hw,fw,h1,h2⟩:=both_cnts ⟨false,RA l⟩ (TU hl (dM l));have hp:=draft_pos hl hw fw;have hs:IU (RA l) w=0:=by
  unfold IU;rw [if_pos th,b4 hp];rfl
 have e1:=sound_ev ⟨false,RA l⟩ hf h6 (w:=w) (fun _=>⟨hw.rng,h1⟩);have e2:=rsound_ev ⟨false,RA l⟩ hf h6 (w:=w) (fun _=>⟨hw.rng,h2⟩);rw [show (⟨false,RA l⟩:wI).types=RA l from rfl,hs] at e1 e2;exact ⟨e1,e2⟩
end Go.Proofs.YtbnlmgncbgaepaaGreat
