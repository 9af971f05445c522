/- A part of the proof. -/
import Derived.Test.YtbnlmgncbgaepaaGreatTj
import Derived.Test.YtbnlmgncbgaepaaGreatTk
import Derived.Test.YtbnlmgncbgaepaaGreatTl
set_option linter.all false
set_option maxRecDepth 100000
set_option maxHeartbeats 8000000
open Option renaming bind_some → V
open List renaming getElem?_eq_getElem → y5, all_eq_true → y6, getElem_mem → y7, getElem?_eq_some_iff → yf, map_cons → yg, mem_cons → yh, map_nil → yk, mem_of_getElem? → yl, mem_cons_self → ym, mem_cons_of_mem → yo, mem_append → yp, length_map → yq, mem_map → yu, getElem_of_mem → yz, length_take → yF, map_append → yM, eq_nil_of_length_eq_zero → yO, mem_singleton → yS, getElem?_eq_none → yZ
open Bool renaming and_eq_true → y9, false_eq_true → yt
open Int renaming emod_nonneg → yK, emod_lt_of_pos → yN
namespace Go.Proofs.YtbnlmgncbgaepaaGreat
open Go
theorem rM {l:List jC} {i:Int} {rc:Bool} {ps:List dQ}:∀ (n:Nat) (m:SB),m∈IJ l i rc ps n->∃ id p,1<=id/\id<=(n:Int)/\p∈ps/\EJ l i id p=true/\m=LL l i rc id p
 | 0,m,h=>by simp [IJ] at h
 | n + 1,m,h=>by
  rw [IJ] at h;rcases yp.1 h with h | h
  ·obtain ⟨id,p,h1,h2,h3⟩:=rM n m h;exact ⟨id,p,h1,by omega,h3⟩
  ·unfold GP at h;split at h
   ·rename_i p hp;simp only [yS] at h;exact ⟨((n + 1:Nat):Int),p,by omega,by omega,List.mem_of_find?_eq_some hp,List.find?_some hp,h⟩
   ·cases h
theorem init_ok {l:List jC} (hl:oks l) (t code:Int) (hc:0<=code):(NJ l t code).1.ok/\(NJ l t code).1.i64:=by
 have hx:u8 (FA l t).a/\u8 (FA l t).b:=by
  unfold FA;cases h:l[t.toNat]? with
  | none=>exact ⟨⟨by decide,by decide⟩,⟨by decide,by decide⟩⟩
  | some x =>
   have:=hl.2.2 x (yl h);exact ⟨this.2.1,this.2.2.1⟩
 obtain ⟨⟨a0,a1⟩,⟨b0,b1⟩⟩:=hx;unfold NJ;split
 ·exact ⟨by rw [Vl.ok_def]; simp [Vl.of,Vl.keys,Vl.items,Vl.rest,Vl.s]; decide,by rw [Vl.i64_def]; simp [Vl.of,Vl.keys,Vl.items,Vl.i,RP]⟩
 ·refine ⟨?_,?_⟩
  ·rw [Vl.ok_def];refine ⟨by simp [Vl.of,Vl.keys],by simp [Vl.of,Vl.items],by simp [Vl.of,Vl.rest],?_,by simp [Vl.of,Vl.keys],by simp [Vl.of,Vl.items]⟩;simp only [Vl.of,Vl.s];split <;> exact (by decide)
  ·rw [Vl.i64_def];refine ⟨?_,by simp [Vl.of,Vl.keys],by simp [Vl.of,Vl.items]⟩;simp only [Vl.of,Vl.i,RP];split
   ·have hm:0<(FA l t).b % 6 + 1:=by omega
    have:=yK code (show (FA l t).b % 6 + 1≠0 by omega);have:=yN code hm;simp only [jC.low];omega
   ·omega
theorem memZ_ok {l:List jC} (hl:oks l) {i:Int} {rc:Bool} {id:Int} {p:dQ} (hp:p.ok):(LL l i rc id p).ok/\(LL l i rc id p).dflt.i64:=by
 have hf:0<=p.flag / 4:=by have:=hp.2.2.1; omega
 obtain ⟨h1,h2⟩:=init_ok hl (SI l i p.ty) (p.flag / 4) hf;have hz:Vl.zero.ok/\Vl.zero.i64:=⟨by rw [Vl.ok_def]; simp [Vl.zero,Vl.keys,Vl.items,Vl.rest,Vl.s]; decide,by rw [Vl.i64_def]; simp [Vl.zero,Vl.keys,Vl.items,Vl.i,RP]⟩;have hn:(LL l i rc id p).name.size<=9223372036854775807:=by
  have:=tX (97 + id);have h1:(⟨#[109]⟩:ByteArray).size=1:=rfl;simp only [LL,DN,ByteArray.size_append];omega
 refine ⟨⟨?_,hn⟩,?_⟩ <;> simp only [LL] <;> split <;> first | exact h1 | exact h2 | exact hz.1 | exact hz.2
theorem typZ_ok {l:List jC} (hl:oks l) (i:Nat) (hi:i<l.length):(zB l (i:Int)).fine/\(zB l (i:Int)).d64:=by
 have hx:=TF hl hi;have hm:∀ rc,∀ m∈SE l (i:Int) rc (FA l (i:Int)).parts,m.ok/\m.dflt.i64:=fun rc m h=>by
  obtain ⟨id,p,_,_,h1,_,rfl⟩:=rM 12 m h;exact memZ_ok hl (hx.2.2.2.2.2 p h1)
 have ia:∀ rc,(SE l (i:Int) rc (FA l (i:Int)).parts).length<=12:=fun rc=>pN l _ rc _ 12
 have hs:(rI (FA l (i:Int)).a).length<=6:=by
  have:=KS (FA l (i:Int)).a;simp only [rI,yq];omega
 have base:∀ k nm,(sA.of k nm).fine/\(sA.of k nm).d64:=fun k nm=>⟨⟨⟨by simp [sA.of],by simp [sA.of],by simp [sA.of]⟩,by simp [sA.of],by simp [sA.of]⟩,by simp [sA.d64,sA.of]⟩
 have ra:∀ t:sA,t.syms.length<=6->t.mems.length<=12->(∀ m∈t.mems,m.ok/\m.dflt.i64)->t.fine/\t.d64:=fun t h1 h2 h3=>⟨⟨⟨by omega,by omega,fun m hm=>(h3 m hm).1⟩,by omega,by omega⟩,fun m hm=>(h3 m hm).2⟩
 unfold zB;simp only;split
 ·exact base _ _
 ·exact ra _ (by simp [sA.of]) (by simp [sA.of]) (by simp [sA.of])
 ·exact ra _ (by simp [sA.of]) (by simp [sA.of]) (by simp [sA.of])
 ·exact ra _ hs (by simp [sA.of]) (by simp [sA.of])
 ·exact ra _ (by simp [sA.of]) (ia _) (hm _)
 ·split
  ·exact base _ _
  ·exact ra _ (by simp [sA.of]) (ia _) (hm _)
 ·exact ra _ (by simp [sA.of]) (by simp [sA.of]) (by simp [sA.of])
 ·split <;> exact ra _ (by simp [sA.of]) (by simp [sA.of]) (by simp [sA.of])
 ·exact ra _ (by simp [sA.of]) (by simp [sA.of]) (by simp [sA.of])
theorem rwT_ok {n:Nat} {a b:sA} (h:rwT n a b) (ha:a.fine/\a.d64):b.fine/\b.d64:=by
 obtain ⟨bs,⟨hl,hm⟩,rfl⟩:=h;obtain ⟨⟨⟨h1,h2,h3⟩,h4,h5⟩,h6⟩:=ha;have hz:Vl.zero.ok/\Vl.zero.i64:=⟨by rw [Vl.ok_def]; simp [Vl.zero,Vl.keys,Vl.items,Vl.rest,Vl.s]; decide,by rw [Vl.i64_def]; simp [Vl.zero,Vl.keys,Vl.items,Vl.i,RP]⟩;have hb:∀ m∈bs,m.ok/\m.dflt.i64:=fun m ma=>by
  obtain ⟨i,hi,rfl⟩:=yz ma;have hia:i<a.mems.length:=by omega
  obtain ⟨g1,g2,g3,g4⟩:=hm i _ _ (y5 hia) (y5 hi);have hao:=h3 _ (y7 hia);have had:=h6 _ (y7 hia);rcases g4 with g4 | ⟨_,_,_,g4⟩
  ·rw [g4]; exact ⟨hao,had⟩
  ·exact ⟨⟨by rw [g4]; exact hz.1,by rw [g2]; exact hao.2⟩,by rw [g4]; exact hz.2⟩
 exact ⟨⟨⟨h1,by dsimp only; omega,fun m ma=>(hb m ma).1⟩,h4,by dsimp only; omega⟩,fun m ma=>(hb m ma).2⟩
theorem rwS_ok {l:List jC} (hl:oks l) {T:List sA} (h:rwS l.length (RA l) T):(⟨false,T⟩:DH).fine/\(⟨false,T⟩:DH).d64:=by
 obtain ⟨ia,h⟩:=h;have hl5:=hl.2.1;have hdl:(RA l).length=l.length:=by simp [RA]
 have hT:∀ t∈T,t.fine/\t.d64:=fun t ht=>by
  obtain ⟨i,hi,rfl⟩:=yz ht;have fc:i<l.length:=by omega
  have:=h i (zB l (i:Int)) _ (by simp [RA,fc]) (y5 hi);exact rwT_ok this (typZ_ok hl i fc)
 exact ⟨⟨by dsimp only; omega,fun t ht=>(hT t ht).1⟩,fun t ht=>(hT t ht).2⟩
theorem mName_ok:∀ d:Fin 13,zF (DN (d.val:Int))=true:=by decide +kernel
theorem mName_inj:∀ d e:Fin 13,DN (d.val:Int)=DN (e.val:Int)->d=e:=by decide +kernel
theorem Z9:∀ d:Fin 5,zF (qK (d.val:Int))=true:=by decide +kernel
theorem tName_inj:∀ d e:Fin 5,qK (d.val:Int)=qK (e.val:Int)->d=e:=by decide +kernel
theorem symsZ_ok:∀ a:Fin 256,jN (rI (a.val:Int))=true:=by decide +kernel
theorem mName_ok' {d:Int} (h:0<=d/\d<=12):zF (DN d)=true:=by
 have:=mName_ok ⟨d.toNat,by omega⟩
 rwa [show ((d.toNat:Nat):Int)=d from by omega] at this
theorem mName_inj' {d e:Int} (h:0<=d/\d<=12) (h':0<=e/\e<=12) (he:DN d=DN e):d=e:=by
 have:=mName_inj ⟨d.toNat,by omega⟩ ⟨e.toNat,by omega⟩;simp only [show ((d.toNat:Nat):Int)=d from by omega,show ((e.toNat:Nat):Int)=e from by omega] at this;have:=congrArg Fin.val (this he);simp only at this;omega
theorem i8:∀ (L:List Int) (b:Int) (seen:List ByteArray),0<=b->(∀ d∈L,b<d/\d<=12)->L.Pairwise (·<·)->(∀ s∈seen,∃ j,0<=j/\j<=b/\s=DN j)->JC b seen (L.map fun d=>(d,DN d))=true
 | [],_,_,_,_,_,_=>rfl
 | d :: r,b,seen,hb,hd,hp,hs=>by
  have h1:=hd d ym;rw [List.pairwise_cons] at hp;simp only [yg,JC,y9,Bool.not_eq_true'];refine ⟨⟨⟨?_,?_⟩,mName_ok' (by omega)⟩,i8 r d (seen++[DN d]) (by omega) (fun e he=>⟨hp.1 e he,(hd e (yo _ he)).2⟩) hp.2 fun s xf=>?_⟩
  ·simp only [JS,y9,decide_eq_true_eq];omega
  ·refine GS fun cf=>?_
   obtain ⟨j,j0,j1,hj⟩:=hs _ cf;have:=mName_inj' (by omega) (by omega) hj;omega
  ·rcases yp.1 xf with xf | xf
   ·obtain ⟨j,j0,j1,hj⟩:=hs s xf;exact ⟨j,j0,by omega,hj⟩
   ·rw [yS] at xf;exact ⟨d,by omega,by omega,xf⟩
theorem EY (l:List jC) (i:Int) (rc:Bool) (ps:List dQ):∀ n:Nat,∃ L:List Int,(IJ l i rc ps n).map sF=L.map (fun d=>(d,DN d))/\L.Pairwise (·<·)/\∀ d∈L,1<=d/\d<=(n:Int)
 | 0=>⟨[],rfl,List.Pairwise.nil,fun d h=>by cases h⟩
 | n + 1=>by
  obtain ⟨L,h1,h2,h3⟩:=EY l i rc ps n;rw [IJ,yM,h1];unfold GP;split
  ·refine ⟨L++[((n + 1:Nat):Int)],by simp [sF,LL],?_,fun d hd=>?_⟩
   ·rw [List.pairwise_append];refine ⟨h2,List.pairwise_singleton _ _,fun a ha b hb=>?_⟩;rw [yS] at hb;have:=h3 a ha;omega
   ·rcases yp.1 hd with hd | hd
    ·have:=h3 d hd; omega
    ·rw [yS] at hd; omega
  ·exact ⟨L,by simp,h2,fun d hd=>by have:=h3 d hd; omega⟩
theorem rwL_ents {n:Nat} {xs bs:List SB} (h:rwL n xs bs):bs.map sF=xs.map sF:=by
 refine List.ext_getElem (by simp [h.1]) fun i h1 h2=>?_
 simp only [yq] at h1 h2;have:=h.2 i xs[i] bs[i] (y5 h2) (y5 h1);simp only [List.getElem_map,sF,this.1,this.2.1]
theorem init_no {l:List jC} {t c:Int} (h:(NJ l t c).2=false):(NJ l t c).1=Vl.zero:=by
 unfold NJ at h ⊢;split at h
 ·rename_i hc;rw [if_pos hc];rfl
 ·cases h
theorem memZ_good (l:List jC) (i:Int) (rc:Bool) (id:Int) (p:dQ):mB rc (LL l i rc id p)=true:=by
 by_cases h2:2<=p.flag % 4
 ·have h1:¬ p.flag % 4=1:=by omega
  cases rc with
  | false=>simp [mB,LL,Vl.same_refl]
  | true =>
   cases h3:(NJ l (SI l i p.ty) (p.flag / 4)).2 with
   | false=>simp [mB,LL,h1,h2,h3,init_no h3,Vl.same_refl]
   | true=>simp [mB,LL,h1,h2,h3]
 ·cases rc <;> simp [mB,LL,h2,Vl.same_refl]
theorem rwM_good {n:Nat} {rc:Bool} {a b:SB} (h:rwM n a b) (ha:mB rc a=true):mB rc b=true:=by
 obtain ⟨h1,h2,h3,h4⟩:=h;rcases h4 with rfl | ⟨_,_,h5,h6⟩
 ·exact ha
 ·simp only [mB,h3,h5,h6,Vl.same_refl] at ha ⊢;cases rc <;> cases hc:a.crit <;> simp [hc] at ha ⊢
theorem J1 {l:List jC} {i:Int} {rc:Bool} {ps:List dQ} {n:Nat} {bs:List SB} (h:rwL n (SE l i rc ps) bs) (la:rc=true\/bs≠[]):PI rc bs=true:=by
 obtain ⟨L,h1,h2,h3⟩:=EY l i rc ps 12;have ia:bs.length<=12:=by rw [<- h.1]; exact pN l i rc ps 12
 have hents:JC 0 [] (bs.map sF)=true:=by
  rw [rwL_ents h,show (SE l i rc ps).map sF=_ from h1];exact i8 L 0 [] (by omega) (fun d hd=>by have:=h3 d hd; omega) h2 (fun s hs=>by cases hs)
 have ra:bs.all (mB rc)=true:=y6.2 fun b hb=>by
  obtain ⟨j,hj,rfl⟩:=yz hb;have ax:j<(SE l i rc ps).length:=by rw [h.1]; exact hj
  have hm:=h.2 j _ _ (y5 ax) (y5 hj);obtain ⟨id,p,_,_,_,_,he⟩:=rM 12 _ (y7 ax);refine rwM_good hm ?_;rw [he];exact memZ_good l i rc id p
 have db:rc=true\/0<bs.length:=la.imp id fun h=>List.length_pos_iff.2 h
 simp only [PI,ra,hents,Bool.true_and,y9,Bool.or_eq_true,decide_eq_true_eq];exact ⟨db,by omega⟩
theorem key_neg {l:List jC} {code:Int}:∀ n k,rG l code n k<0->(∀ m,0<=(code + (m:Int)) % l.length)->∀ m:Nat,k<=m->m<k + n->TV (fC l ((code + m) % l.length))=false
 | 0,k,_,_,m,h1,h2=>by omega
 | n + 1,k,h,hp,m,h1,h2=>by
  simp only [rG] at h;split at h
  ·have:=hp k; omega
  ·rename_i hk;by_cases e:m=k
   ·subst e;simpa using hk
   ·exact key_neg n (k + 1) h hp m (by omega) (by omega)
theorem key_is {l:List jC} {code:Int}:∀ n k,0<=rG l code n k->TV (fC l (rG l code n k))=true
 | 0,k,h=>by simp [rG] at h
 | n + 1,k,h=>by
  simp only [rG] at h ⊢;split
  ·assumption
  ·rename_i hk;rw [if_neg hk] at h;exact key_is n (k + 1) h
theorem keyZ_neg {l:List jC} (hl:oks l) {c:Int} (hc:0<=c) (h:gK l c<0) {z:Int} (h0:0<=z) (h1:z<l.length):TV (fC l z)=false:=by
 have hp:=hl.1;have hn:(l.length:Int)≠0:=by omega
 have db:∀ m,0<=(c + (m:Int)) % l.length:=fun m=>yK _ hn
 have:=key_neg (l:=l) (code:=c) l.length 0 h db ((z - c) % l.length).toNat (by omega) (by
  have:=yN (z - c) (b:=(l.length:Int)) (by omega);omega)
 have h2:=yK (z - c) hn;rw [show (((z - c) % l.length).toNat:Int)=(z - c) % l.length from by omega,Int.add_emod_emod] at this;rw [show c + (z - c)=z from by omega,Int.emod_eq_of_lt h0 h1] at this;exact this
theorem W1 {l:List jC} (hl:oks l) {c d:Int} (hc:0<=c) (hd:0<=d) (h:gK l c<0):gK l d<0:=by
 by_cases h':gK l d<0
 ·exact h'
 ·have h1:=key_is (l:=l) (code:=d) l.length 0 (by simpa [gK] using h');have h2:=UP hl d l.length 0;have h3:=keyZ_neg hl hc h (z:=gK l d) (by omega) (by unfold gK; omega);unfold gK at h3;rw [h3] at h1;cases h1
structure TypD (l:List jC) (i:Nat) (b:sA):Prop where
 good:gB b=true
 nm:b.named=true->b.name=qK (i:Int)
 uses:∀ u∈b.usesL,0<=u/\u<l.length
 key:b.kind=8->TV (fC l b.key)=true
theorem ML {n:Nat} {bs:List SB} (h:rwL n [] bs):bs=[]:=yO h.1.symm
theorem H8 {l:List jC} (hl:oks l) {i:Nat} (hi:i<l.length) {rc:Bool} {ps:List dQ} {bs:List SB} (h:rwL l.length (SE l (i:Int) rc ps) bs):∀ u∈bs.map SB.ty,0<=u/\u<l.length:=fun u hu=>by
 obtain ⟨b,hb,rfl⟩:=yu.1 hu;obtain ⟨j,hj,rfl⟩:=yz hb;have ax:j<(SE l (i:Int) rc ps).length:=by rw [h.1]; exact hj
 have hm:=h.2 j _ _ (y5 ax) (y5 hj);obtain ⟨id,p,_,_,_,hp,he⟩:=rM 12 _ (y7 ax);rcases hm.2.2.2 with h4 | ⟨h4,h5,_⟩
 ·rw [h4,he];simp only [EJ,decide_eq_true_eq] at hp;exact ⟨hp.2,(iQ hl (i:Int) p.ty (by omega)).2⟩
 ·exact ⟨h4,h5⟩
theorem typ_d {l:List jC} (hl:oks l) {i:Nat} (hi:i<l.length) {b:sA} (h:rwT l.length (zB l (i:Int)) b):TypD l i b:=by
 obtain ⟨bs,se,rfl⟩:=h;have hx:=TF hl hi;obtain ⟨xk,xa,xb,xc,_⟩:=hx0 _ hx;have hl5:=hl.2.1;have hn:(l.length:Int)≠0:=by omega
 have pu:=R8 hx;have eb:zF (qK (i:Int))=true:=Z9 ⟨i,by omega⟩;have gb:jN (rI (FA l (i:Int)).a)=true:=by
  have:=symsZ_ok ⟨(FA l (i:Int)).a.toNat,by have:=xa.2; have:=xa.1; omega⟩
  rwa [show (((FA l (i:Int)).a.toNat:Nat):Int)=(FA l (i:Int)).a from by have:=xa.1; omega] at this
 have eo:0<=(FA l (i:Int)).c % l.length/\(FA l (i:Int)).c % l.length<l.length:=⟨yK _ hn,yN _ (by omega)⟩;unfold zB at se ⊢;generalize FA l (i:Int)=x at *
 by_cases k1:x.kind=1
 ·simp only [k1] at se ⊢;obtain rfl:=ML se;exact ⟨by simp [gB,tI,sA.left,sA.same,LB,sA.of,tB],fun h=>by simp [sA.named,sA.of] at h,fun u hu=>by simp [sA.usesL,sA.of] at hu,fun h=>by simp [sA.of] at h⟩
 by_cases k2:x.kind=2
 ·simp only [k2] at se ⊢;obtain rfl:=ML se;have hlh:x.low<=x.high:=by
   simp only [jC.high];have:=yK x.b (show (6:Int)≠0 by decide);omega
  exact ⟨by simp [gB,tI,sA.left,sA.same,LB,sA.of,tB,hlh],fun h=>by simp [sA.named,sA.of] at h,fun u hu=>by simp [sA.usesL,sA.of] at hu,fun h=>by simp [sA.of] at h⟩
 by_cases k3:x.kind=3
 ·simp only [k3] at se ⊢;obtain rfl:=ML se;exact ⟨by simp [gB,tI,sA.left,sA.same,LB,sA.of,tB]; omega,fun h=>by simp [sA.named,sA.of] at h,fun u hu=>by simp [sA.usesL,sA.of] at hu,fun h=>by simp [sA.of] at h⟩
 by_cases k4:x.kind=4
 ·simp only [k4] at se ⊢;obtain rfl:=ML se;exact ⟨by simp [gB,tI,sA.left,sA.same,LB,sA.of,tB,eb,gb],fun h=>by simp [sA.of],fun u hu=>by simp [sA.usesL,sA.of] at hu,fun h=>by simp [sA.of] at h⟩
 by_cases k5:x.kind=5
 ·simp only [k5] at se ⊢;have hg:=J1 se (.inl rfl);have hu:=H8 hl hi se;exact ⟨by simp [gB,tI,sA.left,sA.same,LB,sA.of,tB,eb,hg],fun h=>by simp [sA.of],fun u h=>hu u (by simpa [sA.usesL,sA.of] using h),fun h=>by simp [sA.of] at h⟩
 by_cases k6:x.kind=6
 ·simp only [k6] at se ⊢;by_cases he:(SE l (i:Int) false x.parts).isEmpty=true
  ·simp only [he,if_true] at se ⊢;obtain rfl:=ML se;exact ⟨by simp [gB,tI,sA.left,sA.same,LB,sA.of,tB,eb,PI,JC],fun h=>by simp [sA.of],fun u hu=>by simp [sA.usesL,sA.of] at hu,fun h=>by simp [sA.of] at h⟩
  ·simp only [he,if_false,yt] at se ⊢;have la:bs≠[]:=fun e=>by
    rw [e] at se;have:=se.1;simp only [List.length_nil] at this;rw [yO this] at he;simp at he
   have hg:=J1 se (.inr la);have hu:=H8 hl hi se;exact ⟨by simp [gB,tI,sA.left,sA.same,LB,sA.of,tB,eb,hg],fun h=>by simp [sA.of],fun u h=>hu u (by simpa [sA.usesL,sA.of] using h),fun h=>by simp [sA.of] at h⟩
 by_cases k7:x.kind=7
 ·simp only [k7] at se ⊢;obtain rfl:=ML se;exact ⟨by simp [gB,tI,sA.left,sA.same,LB,sA.of,tB]; omega,fun h=>by simp [sA.named,sA.of] at h,fun u hu=>by simp [sA.usesL,sA.of] at hu; rw [hu]; exact eo,fun h=>by simp [sA.of] at h⟩
 by_cases k8:x.kind=8
 ·simp only [k8] at se ⊢;by_cases hc:gK l x.b<0
  ·simp only [if_pos hc] at se ⊢;obtain rfl:=ML se;exact ⟨by simp [gB,tI,sA.left,sA.same,LB,sA.of,tB]; omega,fun h=>by simp [sA.named,sA.of] at h,fun u hu=>by simp [sA.usesL,sA.of] at hu; rw [hu]; exact eo,fun h=>by simp [sA.of] at h⟩
  ·simp only [if_neg hc] at se ⊢;obtain rfl:=ML se;have pu:=UP hl x.b l.length 0;refine ⟨by simp [gB,tI,sA.left,sA.same,LB,sA.of,tB]; omega,fun h=>by simp [sA.named,sA.of] at h,fun u hu=>?_,fun h=>key_is l.length 0 (by simpa [gK] using hc)⟩;simp [sA.usesL,sA.of] at hu;rcases hu with rfl | rfl
   ·exact ⟨by omega,pu.2⟩
   ·exact eo
 have k9:x.kind=9:=by omega
 simp only [k9] at se ⊢;obtain rfl:=ML se;exact ⟨by simp [gB,tI,sA.left,sA.same,LB,sA.of,tB],fun h=>by simp [sA.named,sA.of] at h,fun u hu=>by simp [sA.usesL,sA.of] at hu; rw [hu]; exact eo,fun h=>by simp [sA.of] at h⟩
theorem kdAt_nd (l:List jC) {j:Nat} (hj:j<l.length):fC l (j:Int)=(FA l (j:Int)).kind:=by
 simp [fC,FA,y5 hj]
theorem WQ (l:List jC) {j:Nat} (hj:j<l.length):(zB l (j:Int)).kind=(if fC l (j:Int)=6/\(SE l (j:Int) false (FA l (j:Int)).parts).isEmpty=true then 5 else if fC l (j:Int)=8/\gK l (FA l (j:Int)).b<0 then 7 else if 1<=fC l (j:Int)/\fC l (j:Int)<=8 then fC l (j:Int) else 9):=by
 rw [kdAt_nd l hj];unfold zB;generalize FA l (j:Int)=x;simp only;split
 ·rename_i h; simp [h,sA.of]
 ·rename_i h; simp [h,sA.of]
 ·rename_i h; simp [h,sA.of]
 ·rename_i h; simp [h,sA.of]
 ·rename_i h; simp [h,sA.of]
 ·rename_i h;split
  ·rename_i h'; simp [h,h',sA.of]
  ·rename_i h'; simp [h,h',sA.of]
 ·rename_i h; simp [h,sA.of]
 ·rename_i h;split
  ·rename_i h'; simp [h,h',sA.of]
  ·rename_i h'; simp [h,h',sA.of]
 ·rename_i h1 h2 h3 h4 h5 h6 h7 h8;have e6:¬ x.kind=6:=h6;have e8:¬ x.kind=8:=h8;have hr:¬ (1<=x.kind/\x.kind<=8):=fun ⟨a,b⟩=>by
   have q1:¬ x.kind=1:=h1;have q2:¬ x.kind=2:=h2;have q3:¬ x.kind=3:=h3;have q4:¬ x.kind=4:=h4;have q5:¬ x.kind=5:=h5;have q7:¬ x.kind=7:=h7;omega
  simp [e6,e8,hr,sA.of]
theorem IT {n:Nat} {l:List jC} {T:List sA} (h:rwS n (RA l) T):T.length=l.length:=by
 have:=h.1;simp [RA] at this;exact this.symm
theorem mQ {l:List jC} {T:List sA} (h:rwS l.length (RA l) T) {i:Nat} (hi:i<T.length):rwT l.length (zB l (i:Int)) T[i]:=by
 have fc:i<l.length:=by rw [<- IT h]; exact hi
 exact h.2 i _ _ (by simp [RA,fc]) (y5 hi)
theorem ZY {n:Nat} {a b:sA} (h:rwT n a b):b.kind=a.kind:=by
 obtain ⟨bs,_,rfl⟩:=h;rfl
theorem ST {l:List sA} (h:∀ i,(hi:i<l.length)->kC l i l[i]=0):∀ n i,bC l n i=0
 | 0,i=>rfl
 | n + 1,i=>by
  rw [bC];by_cases hi:i<l.length
  ·rw [y5 hi];simp only [h i hi,if_true];exact ST h n (i + 1)
  ·rw [yZ (by omega)]
theorem QQ {l:List jC} (hl:oks l) {T:List sA} (h:rwS l.length (RA l) T):valid T=0:=by
 have hl5:=hl.2.1;have ia:=IT h;unfold valid;rw [if_neg (by omega)];refine ST (fun i hi=>?_) _ _;have hd:∀ j,(hj:j<T.length)->TypD l j T[j]:=fun j hj=>typ_d hl (by omega) (mQ h hj)
 obtain ⟨hg,eb,hu,hk⟩:=hd i hi;unfold kC;rw [if_neg (by rw [hg]; decide)];rw [if_neg]
 ·rw [if_neg]
  ·rw [if_neg];rintro ⟨h8,hn⟩;have dc:=hk h8;have huk:=hu T[i].key (by simp [sA.usesL,h8]);have uj:T[i].key.toNat<T.length:=by omega
   apply hn;unfold II;rw [y5 uj];simp only;rw [ZY (mQ h uj),WQ l (by omega)];rw [show ((T[i].key.toNat:Nat):Int)=T[i].key from by omega];simp only [TV,decide_eq_true_eq] at dc;rw [if_neg (by omega),if_neg (by omega),if_pos (by omega)];exact dc
  ·intro oy;obtain ⟨u,ma,ho⟩:=List.any_eq_true.1 oy;have:=hu u ma;simp only [bB,Bool.or_eq_true,decide_eq_true_eq] at ho;omega
 ·rintro ⟨hn,ma⟩;rw [yu] at ma;obtain ⟨b,hb,he⟩:=ma;obtain ⟨j,hj,rfl⟩:=yz hb;rw [yF] at hj;rw [List.getElem_take] at he;have hjT:j<T.length:=by omega
  obtain ⟨hgj,hnmj,_,_⟩:=hd j hjT;rw [eb hn] at he;have hbn:T[j].named=true:=by
   cases hc:T[j].named with
   | true=>rfl
   | false =>
    have fc:=Z9 ⟨i,by omega⟩;simp only at fc;rw [<- he] at fc;have kc:T[j].name=⟨#[]⟩:=by
     unfold gB at hgj;simp only [sA.named,Bool.or_eq_false_iff,decide_eq_false_iff_not] at hc;simp only [y9,decide_eq_true_eq] at hgj;have hs:=hgj.2.2;unfold sA.left at hs;obtain ⟨⟨c4,c5⟩,c6⟩:=hc;simp only [c4,c5,c6,if_false] at hs;split at hs
     ·simp only [sA.same,LB,y9,decide_eq_true_eq] at hs; exact of_decide_eq_true hs.1.1.1.1.1.1.1.1.2
     ·split at hs
      ·simp only [sA.same,LB,y9,decide_eq_true_eq] at hs; exact of_decide_eq_true hs.1.1.1.1.1.1.1.1.2
      ·split at hs
       ·simp only [sA.same,LB,y9,decide_eq_true_eq] at hs; exact of_decide_eq_true hs.1.1.1.1.1.1.1.1.2
       ·split at hs
        ·simp only [sA.same,LB,y9,decide_eq_true_eq] at hs; exact of_decide_eq_true hs.1.1.1.1.1.1.1.1.2
        ·split at hs
         ·simp only [sA.same,LB,y9,decide_eq_true_eq] at hs; exact of_decide_eq_true hs.1.1.1.1.1.1.1.1.2
         ·simp only [sA.same,LB,y9,decide_eq_true_eq] at hs; exact of_decide_eq_true hs.1.1.1.1.1.1.1.1.2
    rw [kc] at fc;exact absurd fc (by decide)
  have:=tName_inj ⟨j,by omega⟩ ⟨i,by omega⟩ (by simp only; rw [<- hnmj hbn,he]);have:=congrArg Fin.val this;simp only at this;omega
theorem Q8 {α:Type} (p:α->Bool):∀ l:List α,(∃ x∈l,p x=true)->0<=KA p l
 | [],h=>by obtain ⟨x,hx,_⟩:=h; cases hx
 | x :: r,h=>by
  have hg:=XC p r;unfold KA;by_cases hp:p x=true
  ·rw [if_pos hp]; exact Int.le_refl 0
  ·rw [if_neg hp];have:0<=KA p r:=Q8 p r (by
    obtain ⟨y,hy,hpy⟩:=h;rcases yh.1 hy with rfl | hy
    ·exact absurd hpy hp
    ·exact ⟨y,hy,hpy⟩)
   rw [if_neg (by omega)];omega
theorem idAt_mem (a c:Int) (hc:0<=c):0<=bG (rI a) (idAt a c):=by
 have ia:=KS a;have hn:((aF a).length:Int)≠0:=by omega
 have h0:=yK c hn;have h1:=yN c (b:=((aF a).length:Int)) (by omega);have fa:(c % (aF a).length).toNat<(aF a).length:=by omega
 refine Q8 _ _ ⟨⟨idAt a c,sName (idAt a c)⟩,?_,by simp⟩;unfold rI;refine yu.2 ⟨idAt a c,?_,rfl⟩;unfold idAt;rw [y5 fa];exact y7 fa
theorem init_plain {l:List jC} (hl:oks l) {T:List sA} (h:rwS l.length (RA l) T) {t c:Int} (ht:0<=t/\t<l.length) (hc:0<=c) (hi:(NJ l t c).2=true):AI T t (NJ l t c).1=true:=by
 have ia:=IT h;have hjT:t.toNat<T.length:=by omega
 have xh:t.toNat<l.length:=by omega
 have se:=mQ h hjT;have jn:((t.toNat:Nat):Int)=t:=by omega
 have tb:=WQ l xh;rw [jn] at se tb;have hx:=TF hl xh;rw [jn] at hx;have pu:=W8 hl ht.1 ht.2;have xg:fC l t=(FA l t).kind:=by rw [<- jn]; exact kdAt_nd l xh
 obtain ⟨xk,xa,xb,xc,_⟩:=hx0 _ hx;unfold AI;unfold kG;have ho:bB T.length t=false:=by simp [bB]; omega
 rw [ho,y5 hjT];generalize hf:kG T _=f;clear hf;have hk:=ZY se;rw [tb] at hk;unfold NJ at hi ⊢;by_cases jl:fC l t=5\/fC l t=6
 ·rw [if_pos jl] at hi; cases hi
 rw [if_neg jl];have e6:¬ (fC l t=6/\(SE l t false (FA l t).parts).isEmpty=true):=fun e=>jl (.inr e.1)
 rw [if_neg e6] at hk;obtain ⟨bs,sv,hb⟩:=se;rw [hb] at hk ⊢;simp only [Bool.not_false,Bool.true_and];have cf:inK l t=(zB l t).kind:=by
  unfold inK;by_cases h8:fC l t=8
  ·by_cases hn:gK l 0<0
   ·have og:=W1 hl (by omega) xb.1 hn;rw [if_pos ⟨h8,hn⟩];rw [if_pos ⟨h8,og⟩] at hk;exact hk.symm
   ·have og:¬ gK l (FA l t).b<0:=fun q=>hn (W1 hl xb.1 (by omega) q)
    rw [if_neg (fun q=>hn q.2)];rw [if_neg (fun q=>og q.2),if_pos (by omega)] at hk;exact hk.symm
  ·rw [if_neg (fun q=>h8 q.1)];rw [if_neg (fun q=>h8 q.1)] at hk;by_cases h9:fC l t<=8
   ·rw [if_pos ⟨by omega,h9⟩] at hk; exact hk.symm
   ·rw [if_neg (fun q=>h9 q.2)] at hk;show fC l t=_;have:(zB l t).kind=9:=hk;omega
 rw [cf];have hzV:∀ (k:Int) (b:Bool) (i:Int) (s:ByteArray) (d:Int),(k=1\/b=false)->(k=2\/i=0)->(k=3\/s=⟨#[]⟩)->(k=4\/k=6\/d=0)->aE (Vl.of k b i s d)=true:=fun k b i s d h1 h2 h3 h4=>by
  simp only [aE,Vl.of,Vl.kind,Vl.b,Vl.i,Vl.s,Vl.id,Vl.keys,Vl.items,Vl.rest,List.isEmpty_nil,Bool.or_true,Bool.and_true,y9,Bool.or_eq_true,decide_eq_true_eq,Bool.not_eq_true',or_assoc];exact ⟨h1.imp (fun h=>decide_eq_true h) id,h2.imp (fun h=>decide_eq_true h) (fun h=>decide_eq_true h),h3.imp (fun h=>decide_eq_true h) (fun h=>decide_eq_true h),h4.imp (fun h=>decide_eq_true h) (Or.imp (fun h=>decide_eq_true h) (fun h=>decide_eq_true h))⟩
 by_cases k1:fC l t=1
 ·have hz:(zB l t).kind=1:=by simp [zB,<- xg,k1,sA.of]
  rw [hz];simp [Vl.of,Vl.kind,rU,aE,Vl.b,Vl.i,Vl.s,Vl.id,Vl.keys,Vl.items,Vl.rest,k1]
 by_cases k2:fC l t=2
 ·have hz:(zB l t).kind=2:=by simp [zB,<- xg,k2,sA.of]
  have hlo:(zB l t).low=(FA l t).low:=by simp [zB,<- xg,k2,sA.of]
  have ir:(zB l t).high=(FA l t).high:=by simp [zB,<- xg,k2,sA.of]
  rw [hz,hlo,ir];have h1:=yK c (show (FA l t).b % 6 + 1≠0 by have:=xb.1; omega);have h2:=yN c (show 0<(FA l t).b % 6 + 1 by have:=xb.1; omega);have h3:(FA l t).low<=(FA l t).low + c % ((FA l t).b % 6 + 1):=by omega
  have h4:(FA l t).low + c % ((FA l t).b % 6 + 1)<=(FA l t).high:=by simp only [jC.high]; omega
  simp [Vl.of,Vl.kind,rU,aE,Vl.b,Vl.i,Vl.s,Vl.id,Vl.keys,Vl.items,Vl.rest,k2,h3,h4,h1]
 by_cases k3:fC l t=3
 ·have hz:(zB l t).kind=3:=by simp [zB,<- xg,k3,sA.of]
  have zp:(zB l t).max=(FA l t).a % 4:=by simp [zB,<- xg,k3,sA.of]
  have h0:0<=(FA l t).a % 4:=by omega
  have hs0:(⟨#[]⟩:ByteArray).size=0:=rfl;have tl:(⟨#[97]⟩:ByteArray).size=1:=rfl;rw [hz,zp];by_cases hq:0<(FA l t).a % 4/\c % 2=1
  ·have h1:1<=(FA l t).a % 4:=by omega
   simp [Vl.of,Vl.kind,rU,aE,Vl.b,Vl.i,Vl.s,Vl.id,Vl.keys,Vl.items,Vl.rest,k3,hq,tl,h1]
  ·simp [Vl.of,Vl.kind,rU,aE,Vl.b,Vl.i,Vl.s,Vl.id,Vl.keys,Vl.items,Vl.rest,k3,hq,hs0,h0]
 by_cases k4:fC l t=4
 ·have hz:(zB l t).kind=4:=by simp [zB,<- xg,k4,sA.of]
  have gb:(zB l t).syms=rI (FA l t).a:=by simp [zB,<- xg,k4,sA.of]
  have hm:=idAt_mem (FA l t).a c hc;rw [hz,gb];simp [Vl.of,Vl.kind,rU,aE,Vl.b,Vl.i,Vl.s,Vl.id,Vl.keys,Vl.items,Vl.rest,k4,hm]
 have hz:7<=(zB l t).kind/\(zB l t).kind<=9:=by
  rw [tb,if_neg e6];split
  ·omega
  ·split <;> omega
 have zp:(zB l t).kind<=8->0<=(zB l t).max:=fun h8=>by
  by_cases k7:fC l t=7
  ·have:(zB l t).max=(FA l t).a % 4:=by simp [zB,<- xg,k7,sA.of]
   omega
  by_cases k8:fC l t=8
  ·by_cases hc:gK l (FA l t).b<0
   ·have:(zB l t).max=(FA l t).a % 4:=by simp [zB,<- xg,k8,hc,sA.of]
    omega
   ·have:(zB l t).max=(FA l t).a % 4:=by simp [zB,<- xg,k8,hc,sA.of]
    omega
  have k9:fC l t=9:=by omega
  have:(zB l t).kind=9:=by simp [zB,<- xg,k9,sA.of]
  omega
 generalize (zB l t).kind=kk at *
 have q1:¬ kk=1:=by omega
 have q2:¬ kk=2:=by omega
 have q3:¬ kk=3:=by omega
 have q4:¬ kk=4:=by omega
 have q5:¬ kk=5:=by omega
 have q6:¬ kk=6:=by omega
 have pm:rU f { kind:=kk,name:=(zB l t).name,low:=(zB l t).low,high:=(zB l t).high,max:=(zB l t).max,sn:=(zB l t).sn,syms:=(zB l t).syms,mn:=bs.isEmpty,mems:=bs,key:=(zB l t).key,elem:=(zB l t).elem,opn:=(zB l t).opn } (Vl.of kk false 0 ⟨#[]⟩ 0)=true:=by
  simp only [rU,q1,q2,q3,q4,q5,q6,if_false,Vl.of,Vl.items,Vl.keys];by_cases k7:kk=7
  ·simp [k7,zp (by omega)]
  by_cases k8:kk=8
  ·simp [k8,zp (by omega),sN]
  simp [k7,k8]
 simp only [k1,k2,k3,k4,false_and,if_false,decide_false];rw [hzV kk false 0 ⟨#[]⟩ 0 (.inr rfl) (.inr rfl) (.inr rfl) (.inr (.inr rfl)),pm];simp [Vl.of,Vl.kind]
theorem qX {S:List sA} (h:∀ t∈S,NH S t=none):∀ n i,ED S n i=none
 | 0,i=>rfl
 | n + 1,i=>by
  rw [ED];cases hi:S[i]? with
  | none=>rfl
  | some t =>
   simp only [h t (yl hi)];exact qX h n (i + 1)
theorem rwS_err {l:List jC} (hl:oks l) {T:List sA} (h:rwS l.length (RA l) T):eE T=0:=by
 unfold eE;rw [if_pos (QQ hl h),qX fun t ht=>?_];obtain ⟨i,hi,rfl⟩:=yz ht;have rp:i<l.length:=by rw [<- IT h]; exact hi
 unfold NH;rw [Option.map_eq_none_iff,List.find?_eq_none];intro m hm;obtain ⟨bs,sv,hb⟩:=mQ h hi;have bd:m∈bs:=by rw [hb] at hm; exact hm
 obtain ⟨j,hj,rfl⟩:=yz bd;have ax:j<(zB l (i:Int)).mems.length:=by rw [sv.1]; exact hj
 have hr:=sv.2 j _ _ (y5 ax) (y5 hj);unfold fM;rcases hr.2.2.2 with h4 | ⟨_,_,h5,_⟩
 ·rw [h4];have hmz:∃ rc id p,p.ok/\EJ l (i:Int) id p=true/\(zB l (i:Int)).mems[j]=LL l (i:Int) rc id p:=by
   have ma:=y7 ax;generalize (zB l (i:Int)).mems[j]=m at *
   have hx:=TF hl rp;unfold zB at ma;generalize FA l (i:Int)=x at *
   have hp:∀ rc,m∈SE l (i:Int) rc x.parts->∃ rc id p,p.ok/\EJ l (i:Int) id p=true/\m=LL l (i:Int) rc id p:=fun rc ma=>by
    obtain ⟨id,p,_,_,h1,h2,h3⟩:=rM 12 m ma;exact ⟨rc,id,p,hx.2.2.2.2.2 p h1,h2,h3⟩
   simp only at ma;split at ma <;> first | (simp [sA.of] at ma; done) | exact hp _ ma | skip
   all_goals split at ma <;> first | (simp [sA.of] at ma; done) | exact hp _ ma
  obtain ⟨rc,id,p,ol,hp,he⟩:=hmz;rw [he];simp only [EJ,decide_eq_true_eq] at hp;have hrg:=iQ hl (i:Int) p.ty (by omega);cases hh:(LL l (i:Int) rc id p).has with
  | false=>simp
  | true =>
   simp only [LL,y9,decide_eq_true_eq] at hh;have:=init_plain hl h ⟨hp.2,hrg.2⟩ (c:=p.flag / 4) (by have:=ol.2.2.1; omega) hh.2;simp [LL,hh.1,this]
 ·simp [h5]
theorem g9 {w:HE}:∀ (l:List SB) (c:Int),(∀ m∈l,1<=w m.ty.toNat)->1<=c->1<=UO w l c
 | [],c,_,hc=>hc
 | x :: r,c,hm,hc=>by
  rw [UO];have h1:=hm x ym;have h2:1 * 1<=c * w x.ty.toNat:=Int.mul_le_mul hc h1 (by decide) (by omega);exact g9 r _ (fun m h=>hm m (yo _ h)) (by omega)
theorem sumF_ge {w:HE}:∀ (l:List SB) (c:Int),(∀ m∈l,0<=w m.ty.toNat)->c<=bW w l c/\((∃ m∈l,1<=w m.ty.toNat)->c + 1<=bW w l c)
 | [],c,_=>⟨Int.le_refl _,fun h=>by obtain ⟨m,hm,_⟩:=h; cases hm⟩
 | x :: r,c,hm=>by
  rw [bW];have h0:=hm x ym;obtain ⟨h1,h2⟩:=sumF_ge r (c + w x.ty.toNat) fun m h=>hm m (yo _ h)
  refine ⟨by omega,fun h=>?_⟩;obtain ⟨m,ma,hp⟩:=h;rcases yh.1 ma with rfl | ma
  ·omega
  ·have:=h2 ⟨m,ma,hp⟩;omega
theorem E0 {N:Nat} {w:HE} (hw:eM N w) {x:sA} (hx:xD N x) (hg:gB x=true) (h5:x.kind≠5) (h6:x.kind≠6):1<=iF x w:=by
 unfold iF;by_cases h2:x.kind=2
 ·rw [if_pos h2]; split <;> omega
 rw [if_neg h2];by_cases h3:x.kind=3
 ·rw [if_pos h3]; split <;> omega
 rw [if_neg h3];by_cases h4:x.kind=4
 ·rw [if_pos h4];unfold gB at hg;rw [y9,y9] at hg;have ho:=hg.2.1;unfold tI at ho;rw [if_neg h2,if_neg h3,if_pos h4,y9] at ho;have hs:=ho.2;unfold jN at hs;rw [y9] at hs;have:=of_decide_eq_true hs.1;omega
 rw [if_neg h4,if_neg h5,if_neg h6];by_cases h7:x.kind=7
 ·rw [if_pos h7]; split <;> omega
 rw [if_neg h7];by_cases h8:x.kind=8
 ·rw [if_pos h8]; split <;> omega
 rw [if_neg h8];by_cases h9:x.kind=9
 ·rw [if_pos h9];have:=hx.elem (by omega);have:=hw x.elem.toNat (by omega);omega
 rw [if_neg h9];omega
theorem typZ_mn (l:List jC) (i:Int):(zB l i).mn=(zB l i).mems.isEmpty:=by
 unfold zB;generalize FA l i=x;simp only;split
 all_goals first | rfl | skip
 ·split
  ·rfl
  ·rename_i h; simp only [sA.of]; simpa using h
 ·split <;> rfl
theorem iL (l:List jC):rwS l.length (RA l) (RA l):=by
 refine ⟨rfl,fun i a b ha hb=>?_⟩;rw [ha] at hb;injection hb with hb;subst hb;have hm:a.mn=a.mems.isEmpty:=by
  obtain ⟨hi,rfl⟩:=yf.1 ha;simp only [RA,List.getElem_map,List.getElem_range];exact typZ_mn l _
 exact ⟨a.mems,S9 _ _,by rw [<- hm]⟩
theorem frz_typsI {l:List jC} {L:List (List AV)} {s:pA} (h:CI (RA l) L s) {t N c:Nat} (hm:s.mem t N=some (xA L)):AV.frz0 s (.ref t N 10 0 L.length c)=.sl false ((RA l).map qA):=by
 have hL:(L.map fun c=>c.map (AV.frz1 s))=(RA l).map qA:=by
  refine List.ext_getElem (by simp [h.1]) fun i h1 h2=>?_
  have hi:i<(RA l).length:=by simpa using h2
  have hiL:i<L.length:=by simpa using h1
  obtain ⟨m,g1,g2⟩:=h.2 i _ _ (y5 hi) (y5 hiL);simp only [List.getElem_map];rw [g1];have hmn:(RA l)[i].mn=(RA l)[i].mems.isEmpty:=by
   simp only [RA,List.getElem_map,List.getElem_range];exact typZ_mn l _
  have hc:AV.frz1 s m=.sl (RA l)[i].mn ((RA l)[i].mems.map zA):=by
   rw [hmn];rcases g2 with ⟨e,rfl⟩ | ⟨M,la,_,rfl,hM⟩
   ·rw [e]; rfl
   ·have bg:(RA l)[i].mems.isEmpty=false:=by simpa using la
    have:=cK (sz:=13) (EW (RA l)[i].mems) (G1 (RA l)[i].mems);simp only [yq] at this;simp only [AV.frz1,hM,V,this,bg]
  rw [<- typL_C];simp only [xF,yg,yk,hc];rfl
 rw [frz_row (h.toR 0).els hm (by rw [hL]; simp [qA,AV.free0]),hL]
theorem of07_ev {dn:Bool} {l:List jC} (hx:∀ x∈l,x.ok):(oks l/\fA 34 [.agg (FF dn l)] (.tup [.agg [.sl false ((RA l).map qA)],.bool true]))\/(¬ oks l/\fA 34 [.agg (FF dn l)] (.tup [.agg [.sl true []],.bool false])):=by
 have md:gF.res=[.cell 2 true 1,.tmp 3]:=rfl;by_cases hl:1<=l.length/\l.length<=5
 ·left;refine ⟨⟨hl.1,hl.2,hx⟩,?_⟩;refine rA (c:=gF) rfl rfl ?_;refine of_run (dn:=dn) ⟨hl.1,hl.2,hx⟩ _ rfl (fun t n row h=>by cases h) (fun t n row _ h=>by cases h) ?_ ?_ ?_ _ (fun s' h=>?_)
  ·intro t;rcases t with _ | t
   ·exact SX (fun c hc=>by simp only [FF,yS] at hc; subst hc; exact cQ rfl)
   ·exact fun _ _ _=>rfl
  ·exact fun t _ _ _=>rfl
  ·exact fun t=>ET _
  ·obtain ⟨hc,e2,e3,lt,N,L,h2,hN,fa,ak,hL,hT⟩:=h;have g2:=frz_typsI hT (c:=l.length) ak;rw [hL] at g2;have dm:(s'.env 2).v=.ptr 2 1 0:=e2;have il:s'.mem 2 1=some [⟨.ref 168 N 10 0 l.length l.length,.no⟩]:=h2;have f1:AV.frz s' (.agg [.ref 168 N 10 0 l.length l.length])=.agg [.sl false ((RA l).map qA)]:=by simp only [AV.frz,yg,yk,g2]
   have f2:AV.frz s' (.bool true)=.bool true:=rfl;simp [uO,md,RT,dm,e3,il,jB,f1,f2,sX,AV.free,AV.free0,cW,-AV.frz,-AV.frz0]
 ·right;refine ⟨fun h=>hl ⟨h.1,h.2.1⟩,?_⟩;refine rA (c:=gF) rfl rfl ?_;refine of_bad hl _ rfl (fun t n row h=>by cases h) _ (fun s' hc e2 e3 h2=>?_);have dm:(s'.env 2).v=.ptr 2 1 0:=e2;have il:s'.mem 2 1=some [⟨.sl true [],.no⟩]:=h2;simp [uO,md,RT,dm,e3,il,jB,sX,AV.free,AV.free0,cW]
theorem tZ {l:List jC} (hl:oks l) {i:Nat} (hi:i<l.length) {m:SB} (ma:m∈(zB l (i:Int)).mems):∃ rc id p,p.ok/\EJ l (i:Int) id p=true/\m=LL l (i:Int) rc id p:=by
 have hx:=TF hl hi;unfold zB at ma;generalize FA l (i:Int)=x at *
 have hp:∀ rc,m∈SE l (i:Int) rc x.parts->∃ rc id p,p.ok/\EJ l (i:Int) id p=true/\m=LL l (i:Int) rc id p:=fun rc ma=>by
  obtain ⟨id,p,_,_,h1,h2,h3⟩:=rM 12 m ma;exact ⟨rc,id,p,hx.2.2.2.2.2 p h1,h2,h3⟩
 simp only at ma;split at ma <;> first | (simp [sA.of] at ma; done) | exact hp _ ma | skip
 all_goals split at ma <;> first | (simp [sA.of] at ma; done) | exact hp _ ma
theorem dflt_kind {l:List jC} (hl:oks l) {T:List sA} (h:rwS l.length (RA l) T):∀ j,(hj:j<T.length)->∀ m∈T[j].mems,m.has=true->∀ y,T[m.ty.toNat]?=some y->y.kind≠5/\y.kind≠6:=fun j hj m hm hh y hy=>by
 have xh:j<l.length:=by rw [<- IT h]; exact hj
 obtain ⟨bs,sv,hb⟩:=mQ h hj;have bd:m∈bs:=by rw [hb] at hm; exact hm
 obtain ⟨i,hi,rfl⟩:=yz bd;have hia:i<(zB l (j:Int)).mems.length:=by rw [sv.1]; exact hi
 have hr:=sv.2 i _ _ (y5 hia) (y5 hi);rcases hr.2.2.2 with h4 | ⟨_,_,h5,_⟩
 ·obtain ⟨rc,id,p,ol,hp,he⟩:=tZ hl xh (y7 hia);rw [h4,he] at hh hy;simp only [EJ,decide_eq_true_eq] at hp;have hrg:=iQ hl (j:Int) p.ty (by omega);simp only [LL,y9] at hh hy;have h2:=hh.2;unfold NJ at h2;split at h2
  ·cases h2
  ·rename_i hk;obtain ⟨ht,nb⟩:=yf.1 hy;have htl:(SI l (j:Int) p.ty).toNat<l.length:=by omega
   have tb:=WQ l htl;have e1:(((SI l (j:Int) p.ty).toNat:Nat):Int)=SI l (j:Int) p.ty:=by omega
   have hrt:=ZY (mQ h ht);rw [e1] at tb hrt;rw [<- nb,hrt,tb];rw [if_neg (fun q=>hk (.inr q.1))];split
   ·decide
   ·split
    ·constructor <;> omega
    ·decide
 ·rw [h5] at hh; cases hh
theorem hol_ge {l:List jC}:∀ n k,0<=RF l n k->7<=fC l (RF l n k)
 | 0,k,h=>by simp [RF] at h
 | n + 1,k,h=>by
  rw [RF] at h ⊢;by_cases c:7<=fC l k
  ·rw [if_pos c]; exact c
  ·rw [if_neg c] at h ⊢; exact hol_ge n (k + 1) h
theorem tgt_early {l:List jC} (i code:Int) (h:0<=SI l i code):7<=fC l (SI l i code)\/SI l i code<i:=by
 unfold SI at h ⊢;split
 ·rename_i c; exact c
 ·rename_i c;rw [if_neg c] at h;split
  ·rename_i c2; exact .inr (yN _ c2)
  ·rename_i c2; rw [if_neg c2] at h; exact .inl (hol_ge _ _ h)
theorem typZ_ne {l:List jC} {i:Int} (h:(zB l i).kind=6):(zB l i).mems≠[]:=by
 unfold zB at h ⊢;generalize FA l i=x at *
 simp only at h ⊢;split at h
 all_goals first | (simp [sA.of] at h; done) | skip
 ·rename_i hk;split at h
  ·simp [sA.of] at h
  ·rename_i hn; rw [if_neg hn]; simpa using hn
 ·split at h <;> simp [sA.of] at h
theorem draft_pos {l:List jC} (hl:oks l) {w:HE} (hw:RQ (RA l).length (FP (RA l)) w) (fw:∀ j,j<(RA l).length->FP (RA l) j w=w j):∀ j,j<(RA l).length->1<=w j:=by
 have oj:=QQ hl (iL l);have hW:=BD oj;intro j
 induction j using Nat.strongRecOn with
 | ind j ih =>
  intro hj;have xh:j<l.length:=by simpa [RA] using hj
  have hx:(RA l)[j]=zB l (j:Int):=by simp [RA]
  have hWj:=hW _ (y7 hj);have hG:gB (RA l)[j]=true:=(MH (QG oj j hj)).1;have h:=fw j hj;unfold FP at h;rw [y5 hj] at h;simp only at h;have ma:∀ m∈(RA l)[j].mems,1<=w m.ty.toNat:=fun m hm=>by
   rw [hx] at hm;obtain ⟨rc,id,p,ol,hp,rfl⟩:=tZ hl xh hm;simp only [EJ,decide_eq_true_eq] at hp;have hrg:=iQ hl (j:Int) p.ty (by omega);have hdl:(RA l).length=l.length:=by simp [RA]
   show 1<=w (SI l (j:Int) p.ty).toNat;rcases tgt_early (j:Int) p.ty hp.2 with h7 | fa
   ·have htl:(SI l (j:Int) p.ty).toNat<l.length:=by omega
    have tb:=WQ l htl;have e1:(((SI l (j:Int) p.ty).toNat:Nat):Int)=SI l (j:Int) p.ty:=by omega
    have hy:(RA l)[(SI l (j:Int) p.ty).toNat]'(by omega)=zB l (((SI l (j:Int) p.ty).toNat:Nat):Int):=by simp [RA]
    have hk7:7<=(zB l (((SI l (j:Int) p.ty).toNat:Nat):Int)).kind:=by
     rw [tb,e1,if_neg (by omega)];split
     ·omega
     ·split <;> omega
    have hf:=fw (SI l (j:Int) p.ty).toNat (by omega);unfold FP at hf;rw [y5 (by omega)] at hf;simp only at hf;have hc:=E0 hw.rng (hW _ (y7 (show (SI l (j:Int) p.ty).toNat<(RA l).length by omega))) (MH (QG oj _ (by omega))).1 (by rw [hy]; omega) (by rw [hy]; omega);omega
   ·exact ih _ (by omega) (by omega)
  have key:1<=iF (RA l)[j] w:=by
   by_cases h5:(RA l)[j].kind=5
   ·unfold iF;simp only [h5];exact g9 _ _ ma (by decide)
   by_cases h6:(RA l)[j].kind=6
   ·unfold iF;simp only [h6];have la:(RA l)[j].mems≠[]:=by
     rw [hx] at h6 ⊢;exact typZ_ne h6
    obtain ⟨m,hm⟩:=List.exists_mem_of_ne_nil _ la;have:=(sumF_ge (w:=w) (RA l)[j].mems 0 (fun m hm=>by have:=ma m hm; omega)).2 ⟨m,hm,ma m hm⟩;simpa using this
   exact E0 hw.rng hWj hG h5 h6
  omega
theorem R5 {w:HE}:∀ {n:Nat},(∀ j,j<n->1<=w j)->QH w n=true
 | 0,_=>rfl
 | n + 1,h=>by
  unfold QH;rw [R5 (n:=n) (fun j hj=>h j (by omega)),decide_eq_true (by have:=h n (by omega); omega)];rfl
theorem w8 {l:List jC} (hl:oks l):SndE ⟨false,RA l⟩ 0:=by
 obtain ⟨hf,h6⟩:=rwS_ok hl (iL l);have kh:=rwS_err hl (iL l);obtain ⟨w,hw,fw,h1,h2⟩:=p0 ⟨false,RA l⟩ (QQ hl (iL l));have hp:=draft_pos hl hw fw;have hs:aS (RA l) w=0:=by
  unfold aS;rw [if_pos kh,R5 hp];rfl
 have e1:=MY ⟨false,RA l⟩ hf h6 (w:=w) (fun _=>⟨hw.rng,h1⟩);have e2:=MU ⟨false,RA l⟩ hf h6 (w:=w) (fun _=>⟨hw.rng,h2⟩);rw [show (⟨false,RA l⟩:DH).types=RA l from rfl,hs] at e1 e2;exact ⟨e1,e2⟩
end Go.Proofs.YtbnlmgncbgaepaaGreat
