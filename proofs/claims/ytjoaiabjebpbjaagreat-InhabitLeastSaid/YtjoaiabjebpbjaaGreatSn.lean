/- A part of the proof. -/
import Derived.Test.YtjoaiabjebpbjaaGreatSk
import Derived.Test.YtjoaiabjebpbjaaGreatSl
set_option linter.all false
set_option maxRecDepth 100000
set_option maxHeartbeats 8000000
open List renaming getElem?_eq_getElem → y4, getElem_mem → y5, all_eq_true → y6, mem_cons → yc, mem_cons_of_mem → yh, mem_cons_self → yk, map_cons → yl, length_map → yn, getElem_of_mem → yy, mem_map → yB, mem_append → yE, eq_nil_of_length_eq_zero → yF, mem_singleton → yL, length_take → yN, mem_of_getElem? → yQ, getElem?_eq_none → yZ
open Bool renaming and_eq_true → y7, false_eq_true → yp
open Int renaming emod_nonneg → yJ, emod_lt_of_pos → yM
namespace Go.Proofs.YtjoaiabjebpbjaaGreat
open Go
theorem dO {l:List OD} {i:Int} {rc:Bool} {ps:List b6}:∀ (n:Nat) (m:bB),m∈qK l i rc ps n->∃ id p,1<=id/\id<=(n:Int)/\p∈ps/\BM l i id p=true/\m=sO l i rc id p
 | 0,m,h=>by simp [qK] at h
 | n + 1,m,h=>by
  rw [qK] at h;rcases yE.1 h with h | h
  ·obtain ⟨id,p,h1,h2,h3⟩:=dO n m h;exact ⟨id,p,h1,by omega,h3⟩
  ·unfold uQ at h;split at h
   ·rename_i p hp;simp only [yL] at h;exact ⟨((n + 1:Nat):Int),p,by omega,by omega,List.mem_of_find?_eq_some hp,List.find?_some hp,h⟩
   ·cases h
theorem init_ok {l:List OD} (hl:oks l) (t code:Int) (hc:0<=code):(CL l t code).1.ok/\(CL l t code).1.i64:=by
 have hx:u8 (HA l t).a/\u8 (HA l t).b:=by
  unfold HA;cases h:l[t.toNat]? with
  | none=>exact ⟨⟨by decide,by decide⟩,⟨by decide,by decide⟩⟩
  | some x =>
   have:=hl.2.2 x (yQ h);exact ⟨this.2.1,this.2.2.1⟩
 obtain ⟨⟨a0,a1⟩,⟨b0,b1⟩⟩:=hx;unfold CL;split
 ·exact ⟨by rw [Vl.ok_def]; simp [Vl.of,Vl.keys,Vl.items,Vl.rest,Vl.s]; decide,by rw [Vl.i64_def]; simp [Vl.of,Vl.keys,Vl.items,Vl.i,LE]⟩
 ·refine ⟨?_,?_⟩
  ·rw [Vl.ok_def];refine ⟨by simp [Vl.of,Vl.keys],by simp [Vl.of,Vl.items],by simp [Vl.of,Vl.rest],?_,by simp [Vl.of,Vl.keys],by simp [Vl.of,Vl.items]⟩;simp only [Vl.of,Vl.s];split <;> exact (by decide)
  ·rw [Vl.i64_def];refine ⟨?_,by simp [Vl.of,Vl.keys],by simp [Vl.of,Vl.items]⟩;simp only [Vl.of,Vl.i,LE];split
   ·have hm:0<(HA l t).b % 6 + 1:=by omega
    have:=yJ code (show (HA l t).b % 6 + 1≠0 by omega);have:=yM code hm;simp only [OD.low];omega
   ·omega
theorem memZ_ok {l:List OD} (hl:oks l) {i:Int} {rc:Bool} {id:Int} {p:b6} (hp:p.ok):(sO l i rc id p).ok/\(sO l i rc id p).dflt.i64:=by
 have hf:0<=p.flag / 4:=by have:=hp.2.2.1; omega
 obtain ⟨h1,h2⟩:=init_ok hl (aS l i p.ty) (p.flag / 4) hf;have hz:Vl.zero.ok/\Vl.zero.i64:=⟨by rw [Vl.ok_def]; simp [Vl.zero,Vl.keys,Vl.items,Vl.rest,Vl.s]; decide,by rw [Vl.i64_def]; simp [Vl.zero,Vl.keys,Vl.items,Vl.i,LE]⟩;have hn:(sO l i rc id p).name.size<=9223372036854775807:=by
  have:=AX (97 + id);have h1:(⟨#[109]⟩:ByteArray).size=1:=rfl;simp only [sO,aO,ByteArray.size_append];omega
 refine ⟨⟨?_,hn⟩,?_⟩ <;> simp only [sO] <;> split <;> first | exact h1 | exact h2 | exact hz.1 | exact hz.2
theorem typZ_ok {l:List OD} (hl:oks l) (i:Nat) (hi:i<l.length):(IB l (i:Int)).fine/\(IB l (i:Int)).d64:=by
 have hx:=eH hl hi;have hm:∀ rc,∀ m∈uF l (i:Int) rc (HA l (i:Int)).parts,m.ok/\m.dflt.i64:=fun rc m h=>by
  obtain ⟨id,p,_,_,h1,_,rfl⟩:=dO 12 m h;exact memZ_ok hl (hx.2.2.2.2.2 p h1)
 have ba:∀ rc,(uF l (i:Int) rc (HA l (i:Int)).parts).length<=12:=fun rc=>TL l _ rc _ 12
 have hs:(xI (HA l (i:Int)).a).length<=6:=by
  have:=CS (HA l (i:Int)).a;simp only [xI,yn];omega
 have base:∀ k nm,(gA.of k nm).fine/\(gA.of k nm).d64:=fun k nm=>⟨⟨⟨by simp [gA.of],by simp [gA.of],by simp [gA.of]⟩,by simp [gA.of],by simp [gA.of]⟩,by simp [gA.d64,gA.of]⟩
 have za:∀ t:gA,t.syms.length<=6->t.mems.length<=12->(∀ m∈t.mems,m.ok/\m.dflt.i64)->t.fine/\t.d64:=fun t h1 h2 h3=>⟨⟨⟨by omega,by omega,fun m hm=>(h3 m hm).1⟩,by omega,by omega⟩,fun m hm=>(h3 m hm).2⟩
 unfold IB;simp only;split
 ·exact base _ _
 ·exact za _ (by simp [gA.of]) (by simp [gA.of]) (by simp [gA.of])
 ·exact za _ (by simp [gA.of]) (by simp [gA.of]) (by simp [gA.of])
 ·exact za _ hs (by simp [gA.of]) (by simp [gA.of])
 ·exact za _ (by simp [gA.of]) (ba _) (hm _)
 ·split
  ·exact base _ _
  ·exact za _ (by simp [gA.of]) (ba _) (hm _)
 ·exact za _ (by simp [gA.of]) (by simp [gA.of]) (by simp [gA.of])
 ·split <;> exact za _ (by simp [gA.of]) (by simp [gA.of]) (by simp [gA.of])
 ·exact za _ (by simp [gA.of]) (by simp [gA.of]) (by simp [gA.of])
theorem rwT_ok {n:Nat} {a b:gA} (h:rwT n a b) (ha:a.fine/\a.d64):b.fine/\b.d64:=by
 obtain ⟨bs,⟨hl,hm⟩,rfl⟩:=h;obtain ⟨⟨⟨h1,h2,h3⟩,h4,h5⟩,h6⟩:=ha;have hz:Vl.zero.ok/\Vl.zero.i64:=⟨by rw [Vl.ok_def]; simp [Vl.zero,Vl.keys,Vl.items,Vl.rest,Vl.s]; decide,by rw [Vl.i64_def]; simp [Vl.zero,Vl.keys,Vl.items,Vl.i,LE]⟩;have hb:∀ m∈bs,m.ok/\m.dflt.i64:=fun m jb=>by
  obtain ⟨i,hi,rfl⟩:=yy jb;have hia:i<a.mems.length:=by omega
  obtain ⟨g1,g2,g3,g4⟩:=hm i _ _ (y4 hia) (y4 hi);have hao:=h3 _ (y5 hia);have had:=h6 _ (y5 hia);rcases g4 with g4 | ⟨_,_,_,g4⟩
  ·rw [g4]; exact ⟨hao,had⟩
  ·exact ⟨⟨by rw [g4]; exact hz.1,by rw [g2]; exact hao.2⟩,by rw [g4]; exact hz.2⟩
 exact ⟨⟨⟨h1,by dsimp only; omega,fun m jb=>(hb m jb).1⟩,h4,by dsimp only; omega⟩,fun m jb=>(hb m jb).2⟩
theorem rwS_ok {l:List OD} (hl:oks l) {T:List gA} (h:rwS l.length (lF l) T):(⟨false,T⟩:PM).fine/\(⟨false,T⟩:PM).d64:=by
 obtain ⟨ba,h⟩:=h;have hl5:=hl.2.1;have hdl:(lF l).length=l.length:=by simp [lF]
 have hT:∀ t∈T,t.fine/\t.d64:=fun t ht=>by
  obtain ⟨i,hi,rfl⟩:=yy ht;have jc:i<l.length:=by omega
  have:=h i (IB l (i:Int)) _ (by simp [lF,jc]) (y4 hi);exact rwT_ok this (typZ_ok hl i jc)
 exact ⟨⟨by dsimp only; omega,fun t ht=>(hT t ht).1⟩,fun t ht=>(hT t ht).2⟩
theorem mName_ok:∀ d:Fin 13,GF (aO (d.val:Int))=true:=by decide +kernel
theorem mName_inj:∀ d e:Fin 13,aO (d.val:Int)=aO (e.val:Int)->d=e:=by decide +kernel
theorem R9:∀ d:Fin 5,GF (gK (d.val:Int))=true:=by decide +kernel
theorem tName_inj:∀ d e:Fin 5,gK (d.val:Int)=gK (e.val:Int)->d=e:=by decide +kernel
theorem symsZ_ok:∀ a:Fin 256,JK (xI (a.val:Int))=true:=by decide +kernel
theorem mName_ok' {d:Int} (h:0<=d/\d<=12):GF (aO d)=true:=by
 have:=mName_ok ⟨d.toNat,by omega⟩
 rwa [show ((d.toNat:Nat):Int)=d from by omega] at this
theorem mName_inj' {d e:Int} (h:0<=d/\d<=12) (h':0<=e/\e<=12) (he:aO d=aO e):d=e:=by
 have:=mName_inj ⟨d.toNat,by omega⟩ ⟨e.toNat,by omega⟩;simp only [show ((d.toNat:Nat):Int)=d from by omega,show ((e.toNat:Nat):Int)=e from by omega] at this;have:=congrArg Fin.val (this he);simp only at this;omega
theorem b7:∀ (L:List Int) (b:Int) (seen:List ByteArray),0<=b->(∀ d∈L,b<d/\d<=12)->L.Pairwise (·<·)->(∀ s∈seen,∃ j,0<=j/\j<=b/\s=aO j)->TC b seen (L.map fun d=>(d,aO d))=true
 | [],_,_,_,_,_,_=>rfl
 | d :: r,b,seen,hb,hd,hp,hs=>by
  have h1:=hd d yk;rw [List.pairwise_cons] at hp;simp only [yl,TC,y7,Bool.not_eq_true'];refine ⟨⟨⟨?_,?_⟩,mName_ok' (by omega)⟩,b7 r d (seen++[aO d]) (by omega) (fun e he=>⟨hp.1 e he,(hd e (yh _ he)).2⟩) hp.2 fun s mg=>?_⟩
  ·simp only [SR,y7,decide_eq_true_eq];omega
  ·refine ZS fun ai=>?_
   obtain ⟨j,j0,j1,hj⟩:=hs _ ai;have:=mName_inj' (by omega) (by omega) hj;omega
  ·rcases yE.1 mg with mg | mg
   ·obtain ⟨j,j0,j1,hj⟩:=hs s mg;exact ⟨j,j0,by omega,hj⟩
   ·rw [yL] at mg;exact ⟨d,by omega,by omega,mg⟩
theorem pZ (l:List OD) (i:Int) (rc:Bool) (ps:List b6):∀ n:Nat,∃ L:List Int,(qK l i rc ps n).map PF=L.map (fun d=>(d,aO d))/\L.Pairwise (·<·)/\∀ d∈L,1<=d/\d<=(n:Int)
 | 0=>⟨[],rfl,List.Pairwise.nil,fun d h=>by cases h⟩
 | n + 1=>by
  obtain ⟨L,h1,h2,h3⟩:=pZ l i rc ps n;rw [qK,List.map_append,h1];unfold uQ;split
  ·refine ⟨L++[((n + 1:Nat):Int)],by simp [PF,sO],?_,fun d hd=>?_⟩
   ·rw [List.pairwise_append];refine ⟨h2,List.pairwise_singleton _ _,fun a ha b hb=>?_⟩;rw [yL] at hb;have:=h3 a ha;omega
   ·rcases yE.1 hd with hd | hd
    ·have:=h3 d hd; omega
    ·rw [yL] at hd; omega
  ·exact ⟨L,by simp,h2,fun d hd=>by have:=h3 d hd; omega⟩
theorem rwL_ents {n:Nat} {xs bs:List bB} (h:rwL n xs bs):bs.map PF=xs.map PF:=by
 refine List.ext_getElem (by simp [h.1]) fun i h1 h2=>?_
 simp only [yn] at h1 h2;have:=h.2 i xs[i] bs[i] (y4 h2) (y4 h1);simp only [List.getElem_map,PF,this.1,this.2.1]
theorem init_no {l:List OD} {t c:Int} (h:(CL l t c).2=false):(CL l t c).1=Vl.zero:=by
 unfold CL at h ⊢;split at h
 ·rename_i hc;rw [if_pos hc];rfl
 ·cases h
theorem memZ_good (l:List OD) (i:Int) (rc:Bool) (id:Int) (p:b6):mB rc (sO l i rc id p)=true:=by
 by_cases h2:2<=p.flag % 4
 ·have h1:¬ p.flag % 4=1:=by omega
  cases rc with
  | false=>simp [mB,sO,Vl.same_refl]
  | true =>
   cases h3:(CL l (aS l i p.ty) (p.flag / 4)).2 with
   | false=>simp [mB,sO,h1,h2,h3,init_no h3,Vl.same_refl]
   | true=>simp [mB,sO,h1,h2,h3]
 ·cases rc <;> simp [mB,sO,h2,Vl.same_refl]
theorem rwM_good {n:Nat} {rc:Bool} {a b:bB} (h:rwM n a b) (ha:mB rc a=true):mB rc b=true:=by
 obtain ⟨h1,h2,h3,h4⟩:=h;rcases h4 with rfl | ⟨_,_,h5,h6⟩
 ·exact ha
 ·simp only [mB,h3,h5,h6,Vl.same_refl] at ha ⊢;cases rc <;> cases hc:a.crit <;> simp [hc] at ha ⊢
theorem I3 {l:List OD} {i:Int} {rc:Bool} {ps:List b6} {n:Nat} {bs:List bB} (h:rwL n (uF l i rc ps) bs) (ta:rc=true\/bs≠[]):cH rc bs=true:=by
 obtain ⟨L,h1,h2,h3⟩:=pZ l i rc ps 12;have ba:bs.length<=12:=by rw [<- h.1]; exact TL l i rc ps 12
 have hents:TC 0 [] (bs.map PF)=true:=by
  rw [rwL_ents h,show (uF l i rc ps).map PF=_ from h1];exact b7 L 0 [] (by omega) (fun d hd=>by have:=h3 d hd; omega) h2 (fun s hs=>by cases hs)
 have za:bs.all (mB rc)=true:=y6.2 fun b hb=>by
  obtain ⟨j,hj,rfl⟩:=yy hb;have oz:j<(uF l i rc ps).length:=by rw [h.1]; exact hj
  have hm:=h.2 j _ _ (y4 oz) (y4 hj);obtain ⟨id,p,_,_,_,_,he⟩:=dO 12 _ (y5 oz);refine rwM_good hm ?_;rw [he];exact memZ_good l i rc id p
 have ab:rc=true\/0<bs.length:=ta.imp id fun h=>List.length_pos_iff.2 h
 simp only [cH,za,hents,Bool.true_and,y7,Bool.or_eq_true,decide_eq_true_eq];exact ⟨ab,by omega⟩
theorem key_neg {l:List OD} {code:Int}:∀ n k,TG l code n k<0->(∀ m,0<=(code + (m:Int)) % l.length)->∀ m:Nat,k<=m->m<k + n->uW (UC l ((code + m) % l.length))=false
 | 0,k,_,_,m,h1,h2=>by omega
 | n + 1,k,h,hp,m,h1,h2=>by
  simp only [TG] at h;split at h
  ·have:=hp k; omega
  ·rename_i hk;by_cases e:m=k
   ·subst e;simpa using hk
   ·exact key_neg n (k + 1) h hp m (by omega) (by omega)
theorem key_is {l:List OD} {code:Int}:∀ n k,0<=TG l code n k->uW (UC l (TG l code n k))=true
 | 0,k,h=>by simp [TG] at h
 | n + 1,k,h=>by
  simp only [TG] at h ⊢;split
  ·assumption
  ·rename_i hk;rw [if_neg hk] at h;exact key_is n (k + 1) h
theorem keyZ_neg {l:List OD} (hl:oks l) {c:Int} (hc:0<=c) (h:TK l c<0) {z:Int} (h0:0<=z) (h1:z<l.length):uW (UC l z)=false:=by
 have hp:=hl.1;have hn:(l.length:Int)≠0:=by omega
 have ab:∀ m,0<=(c + (m:Int)) % l.length:=fun m=>yJ _ hn
 have:=key_neg (l:=l) (code:=c) l.length 0 h ab ((z - c) % l.length).toNat (by omega) (by
  have:=yM (z - c) (b:=(l.length:Int)) (by omega);omega)
 have h2:=yJ (z - c) hn;rw [show (((z - c) % l.length).toNat:Int)=(z - c) % l.length from by omega,Int.add_emod_emod] at this;rw [show c + (z - c)=z from by omega,Int.emod_eq_of_lt h0 h1] at this;exact this
theorem r3 {l:List OD} (hl:oks l) {c d:Int} (hc:0<=c) (hd:0<=d) (h:TK l c<0):TK l d<0:=by
 by_cases h':TK l d<0
 ·exact h'
 ·have h1:=key_is (l:=l) (code:=d) l.length 0 (by simpa [TK] using h');have h2:=NP hl d l.length 0;have h3:=keyZ_neg hl hc h (z:=TK l d) (by omega) (by unfold TK; omega);unfold TK at h3;rw [h3] at h1;cases h1
structure TypD (l:List OD) (i:Nat) (b:gA):Prop where
 good:aB b=true
 nm:b.named=true->b.name=gK (i:Int)
 uses:∀ u∈b.usesL,0<=u/\u<l.length
 key:b.kind=8->uW (UC l b.key)=true
theorem bM {n:Nat} {bs:List bB} (h:rwL n [] bs):bs=[]:=yF h.1.symm
theorem W8 {l:List OD} (hl:oks l) {i:Nat} (hi:i<l.length) {rc:Bool} {ps:List b6} {bs:List bB} (h:rwL l.length (uF l (i:Int) rc ps) bs):∀ u∈bs.map bB.ty,0<=u/\u<l.length:=fun u hu=>by
 obtain ⟨b,hb,rfl⟩:=yB.1 hu;obtain ⟨j,hj,rfl⟩:=yy hb;have oz:j<(uF l (i:Int) rc ps).length:=by rw [h.1]; exact hj
 have hm:=h.2 j _ _ (y4 oz) (y4 hj);obtain ⟨id,p,_,_,_,hp,he⟩:=dO 12 _ (y5 oz);rcases hm.2.2.2 with h4 | ⟨h4,h5,_⟩
 ·rw [h4,he];simp only [BM,decide_eq_true_eq] at hp;exact ⟨hp.2,(HZ hl (i:Int) p.ty (by omega)).2⟩
 ·exact ⟨h4,h5⟩
theorem typ_d {l:List OD} (hl:oks l) {i:Nat} (hi:i<l.length) {b:gA} (h:rwT l.length (IB l (i:Int)) b):TypD l i b:=by
 obtain ⟨bs,jf,rfl⟩:=h;have hx:=eH hl hi;obtain ⟨xk,xa,xb,xc,_⟩:=ZN _ hx;have hl5:=hl.2.1;have hn:(l.length:Int)≠0:=by omega
 have cj:=C7 hx;have sb:GF (gK (i:Int))=true:=R9 ⟨i,by omega⟩;have tn:JK (xI (HA l (i:Int)).a)=true:=by
  have:=symsZ_ok ⟨(HA l (i:Int)).a.toNat,by have:=xa.2; have:=xa.1; omega⟩
  rwa [show (((HA l (i:Int)).a.toNat:Nat):Int)=(HA l (i:Int)).a from by have:=xa.1; omega] at this
 have lq:0<=(HA l (i:Int)).c % l.length/\(HA l (i:Int)).c % l.length<l.length:=⟨yJ _ hn,yM _ (by omega)⟩;unfold IB at jf ⊢;generalize HA l (i:Int)=x at *
 by_cases k1:x.kind=1
 ·simp only [k1] at jf ⊢;obtain rfl:=bM jf;exact ⟨by simp [aB,kF,gA.left,gA.same,sC,gA.of,pB],fun h=>by simp [gA.named,gA.of] at h,fun u hu=>by simp [gA.usesL,gA.of] at hu,fun h=>by simp [gA.of] at h⟩
 by_cases k2:x.kind=2
 ·simp only [k2] at jf ⊢;obtain rfl:=bM jf;have hlh:x.low<=x.high:=by
   simp only [OD.high];have:=yJ x.b (show (6:Int)≠0 by decide);omega
  exact ⟨by simp [aB,kF,gA.left,gA.same,sC,gA.of,pB,hlh],fun h=>by simp [gA.named,gA.of] at h,fun u hu=>by simp [gA.usesL,gA.of] at hu,fun h=>by simp [gA.of] at h⟩
 by_cases k3:x.kind=3
 ·simp only [k3] at jf ⊢;obtain rfl:=bM jf;exact ⟨by simp [aB,kF,gA.left,gA.same,sC,gA.of,pB]; omega,fun h=>by simp [gA.named,gA.of] at h,fun u hu=>by simp [gA.usesL,gA.of] at hu,fun h=>by simp [gA.of] at h⟩
 by_cases k4:x.kind=4
 ·simp only [k4] at jf ⊢;obtain rfl:=bM jf;exact ⟨by simp [aB,kF,gA.left,gA.same,sC,gA.of,pB,sb,tn],fun h=>by simp [gA.of],fun u hu=>by simp [gA.usesL,gA.of] at hu,fun h=>by simp [gA.of] at h⟩
 by_cases k5:x.kind=5
 ·simp only [k5] at jf ⊢;have hg:=I3 jf (.inl rfl);have hu:=W8 hl hi jf;exact ⟨by simp [aB,kF,gA.left,gA.same,sC,gA.of,pB,sb,hg],fun h=>by simp [gA.of],fun u h=>hu u (by simpa [gA.usesL,gA.of] using h),fun h=>by simp [gA.of] at h⟩
 by_cases k6:x.kind=6
 ·simp only [k6] at jf ⊢;by_cases he:(uF l (i:Int) false x.parts).isEmpty=true
  ·simp only [he,if_true] at jf ⊢;obtain rfl:=bM jf;exact ⟨by simp [aB,kF,gA.left,gA.same,sC,gA.of,pB,sb,cH,TC],fun h=>by simp [gA.of],fun u hu=>by simp [gA.usesL,gA.of] at hu,fun h=>by simp [gA.of] at h⟩
  ·simp only [he,if_false,yp] at jf ⊢;have ta:bs≠[]:=fun e=>by
    rw [e] at jf;have:=jf.1;simp only [List.length_nil] at this;rw [yF this] at he;simp at he
   have hg:=I3 jf (.inr ta);have hu:=W8 hl hi jf;exact ⟨by simp [aB,kF,gA.left,gA.same,sC,gA.of,pB,sb,hg],fun h=>by simp [gA.of],fun u h=>hu u (by simpa [gA.usesL,gA.of] using h),fun h=>by simp [gA.of] at h⟩
 by_cases k7:x.kind=7
 ·simp only [k7] at jf ⊢;obtain rfl:=bM jf;exact ⟨by simp [aB,kF,gA.left,gA.same,sC,gA.of,pB]; omega,fun h=>by simp [gA.named,gA.of] at h,fun u hu=>by simp [gA.usesL,gA.of] at hu; rw [hu]; exact lq,fun h=>by simp [gA.of] at h⟩
 by_cases k8:x.kind=8
 ·simp only [k8] at jf ⊢;by_cases hc:TK l x.b<0
  ·simp only [if_pos hc] at jf ⊢;obtain rfl:=bM jf;exact ⟨by simp [aB,kF,gA.left,gA.same,sC,gA.of,pB]; omega,fun h=>by simp [gA.named,gA.of] at h,fun u hu=>by simp [gA.usesL,gA.of] at hu; rw [hu]; exact lq,fun h=>by simp [gA.of] at h⟩
  ·simp only [if_neg hc] at jf ⊢;obtain rfl:=bM jf;have cj:=NP hl x.b l.length 0;refine ⟨by simp [aB,kF,gA.left,gA.same,sC,gA.of,pB]; omega,fun h=>by simp [gA.named,gA.of] at h,fun u hu=>?_,fun h=>key_is l.length 0 (by simpa [TK] using hc)⟩;simp [gA.usesL,gA.of] at hu;rcases hu with rfl | rfl
   ·exact ⟨by omega,cj.2⟩
   ·exact lq
 have k9:x.kind=9:=by omega
 simp only [k9] at jf ⊢;obtain rfl:=bM jf;exact ⟨by simp [aB,kF,gA.left,gA.same,sC,gA.of,pB],fun h=>by simp [gA.named,gA.of] at h,fun u hu=>by simp [gA.usesL,gA.of] at hu; rw [hu]; exact lq,fun h=>by simp [gA.of] at h⟩
theorem kdAt_nd (l:List OD) {j:Nat} (hj:j<l.length):UC l (j:Int)=(HA l (j:Int)).kind:=by
 simp [UC,HA,y4 hj]
theorem z4 (l:List OD) {j:Nat} (hj:j<l.length):(IB l (j:Int)).kind=(if UC l (j:Int)=6/\(uF l (j:Int) false (HA l (j:Int)).parts).isEmpty=true then 5 else if UC l (j:Int)=8/\TK l (HA l (j:Int)).b<0 then 7 else if 1<=UC l (j:Int)/\UC l (j:Int)<=8 then UC l (j:Int) else 9):=by
 rw [kdAt_nd l hj];unfold IB;generalize HA l (j:Int)=x;simp only;split
 ·rename_i h; simp [h,gA.of]
 ·rename_i h; simp [h,gA.of]
 ·rename_i h; simp [h,gA.of]
 ·rename_i h; simp [h,gA.of]
 ·rename_i h; simp [h,gA.of]
 ·rename_i h;split
  ·rename_i h'; simp [h,h',gA.of]
  ·rename_i h'; simp [h,h',gA.of]
 ·rename_i h; simp [h,gA.of]
 ·rename_i h;split
  ·rename_i h'; simp [h,h',gA.of]
  ·rename_i h'; simp [h,h',gA.of]
 ·rename_i h1 h2 h3 h4 h5 h6 h7 h8;have e6:¬ x.kind=6:=h6;have e8:¬ x.kind=8:=h8;have hr:¬ (1<=x.kind/\x.kind<=8):=fun ⟨a,b⟩=>by
   have q1:¬ x.kind=1:=h1;have q2:¬ x.kind=2:=h2;have q3:¬ x.kind=3:=h3;have q4:¬ x.kind=4:=h4;have q5:¬ x.kind=5:=h5;have q7:¬ x.kind=7:=h7;omega
  simp [e6,e8,hr,gA.of]
theorem LT {n:Nat} {l:List OD} {T:List gA} (h:rwS n (lF l) T):T.length=l.length:=by
 have:=h.1;simp [lF] at this;exact this.symm
theorem KT {l:List OD} {T:List gA} (h:rwS l.length (lF l) T) {i:Nat} (hi:i<T.length):rwT l.length (IB l (i:Int)) T[i]:=by
 have jc:i<l.length:=by rw [<- LT h]; exact hi
 exact h.2 i _ _ (by simp [lF,jc]) (y4 hi)
theorem j9 {n:Nat} {a b:gA} (h:rwT n a b):b.kind=a.kind:=by
 obtain ⟨bs,_,rfl⟩:=h;rfl
theorem NT {l:List gA} (h:∀ i,(hi:i<l.length)->dD l i l[i]=0):∀ n i,wD l n i=0
 | 0,i=>rfl
 | n + 1,i=>by
  rw [wD];by_cases hi:i<l.length
  ·rw [y4 hi];simp only [h i hi,if_true];exact NT h n (i + 1)
  ·rw [yZ (by omega)]
theorem rwS_valid {l:List OD} (hl:oks l) {T:List gA} (h:rwS l.length (lF l) T):valid T=0:=by
 have hl5:=hl.2.1;have ba:=LT h;unfold valid;rw [if_neg (by omega)];refine NT (fun i hi=>?_) _ _;have hd:∀ j,(hj:j<T.length)->TypD l j T[j]:=fun j hj=>typ_d hl (by omega) (KT h hj)
 obtain ⟨hg,sb,hu,hk⟩:=hd i hi;unfold dD;rw [if_neg (by rw [hg]; decide)];rw [if_neg]
 ·rw [if_neg]
  ·rw [if_neg];rintro ⟨h8,hn⟩;have td:=hk h8;have huk:=hu T[i].key (by simp [gA.usesL,h8]);have jo:T[i].key.toNat<T.length:=by omega
   apply hn;unfold AO;rw [y4 jo];simp only;rw [j9 (KT h jo),z4 l (by omega)];rw [show ((T[i].key.toNat:Nat):Int)=T[i].key from by omega];simp only [uW,decide_eq_true_eq] at td;rw [if_neg (by omega),if_neg (by omega),if_pos (by omega)];exact td
  ·intro hany;obtain ⟨u,jb,ho⟩:=List.any_eq_true.1 hany;have:=hu u jb;simp only [tB,Bool.or_eq_true,decide_eq_true_eq] at ho;omega
 ·rintro ⟨hn,jb⟩;rw [yB] at jb;obtain ⟨b,hb,he⟩:=jb;obtain ⟨j,hj,rfl⟩:=yy hb;rw [yN] at hj;rw [List.getElem_take] at he;have hjT:j<T.length:=by omega
  obtain ⟨hgj,hnmj,_,_⟩:=hd j hjT;rw [sb hn] at he;have hbn:T[j].named=true:=by
   cases hc:T[j].named with
   | true=>rfl
   | false =>
    have jc:=R9 ⟨i,by omega⟩;simp only at jc;rw [<- he] at jc;have dd:T[j].name=⟨#[]⟩:=by
     unfold aB at hgj;simp only [gA.named,Bool.or_eq_false_iff,decide_eq_false_iff_not] at hc;simp only [y7,decide_eq_true_eq] at hgj;have hs:=hgj.2.2;unfold gA.left at hs;obtain ⟨⟨c4,c5⟩,c6⟩:=hc;simp only [c4,c5,c6,if_false] at hs;split at hs
     ·simp only [gA.same,sC,y7,decide_eq_true_eq] at hs; exact of_decide_eq_true hs.1.1.1.1.1.1.1.1.2
     ·split at hs
      ·simp only [gA.same,sC,y7,decide_eq_true_eq] at hs; exact of_decide_eq_true hs.1.1.1.1.1.1.1.1.2
      ·split at hs
       ·simp only [gA.same,sC,y7,decide_eq_true_eq] at hs; exact of_decide_eq_true hs.1.1.1.1.1.1.1.1.2
       ·split at hs
        ·simp only [gA.same,sC,y7,decide_eq_true_eq] at hs; exact of_decide_eq_true hs.1.1.1.1.1.1.1.1.2
        ·split at hs
         ·simp only [gA.same,sC,y7,decide_eq_true_eq] at hs; exact of_decide_eq_true hs.1.1.1.1.1.1.1.1.2
         ·simp only [gA.same,sC,y7,decide_eq_true_eq] at hs; exact of_decide_eq_true hs.1.1.1.1.1.1.1.1.2
    rw [dd] at jc;exact absurd jc (by decide)
  have:=tName_inj ⟨j,by omega⟩ ⟨i,by omega⟩ (by simp only; rw [<- hnmj hbn,he]);have:=congrArg Fin.val this;simp only at this;omega
theorem F7 {α:Type} (p:α->Bool):∀ l:List α,(∃ x∈l,p x=true)->0<=wC p l
 | [],h=>by obtain ⟨x,hx,_⟩:=h; cases hx
 | x :: r,h=>by
  have hg:=sF p r;unfold wC;by_cases hp:p x=true
  ·rw [if_pos hp]; exact Int.le_refl 0
  ·rw [if_neg hp];have:0<=wC p r:=F7 p r (by
    obtain ⟨y,hy,hpy⟩:=h;rcases yc.1 hy with rfl | hy
    ·exact absurd hpy hp
    ·exact ⟨y,hy,hpy⟩)
   rw [if_neg (by omega)];omega
theorem idAt_mem (a c:Int) (hc:0<=c):0<=AN (xI a) (idAt a c):=by
 have ba:=CS a;have hn:((OF a).length:Int)≠0:=by omega
 have h0:=yJ c hn;have h1:=yM c (b:=((OF a).length:Int)) (by omega);have fa:(c % (OF a).length).toNat<(OF a).length:=by omega
 refine F7 _ _ ⟨⟨idAt a c,sName (idAt a c)⟩,?_,by simp⟩;unfold xI;refine yB.2 ⟨idAt a c,?_,rfl⟩;unfold idAt;rw [y4 fa];exact y5 fa
theorem init_plain {l:List OD} (hl:oks l) {T:List gA} (h:rwS l.length (lF l) T) {t c:Int} (ht:0<=t/\t<l.length) (hc:0<=c) (hi:(CL l t c).2=true):PE T t (CL l t c).1=true:=by
 have ba:=LT h;have hjT:t.toNat<T.length:=by omega
 have bm:t.toNat<l.length:=by omega
 have jf:=KT h hjT;have zn:((t.toNat:Nat):Int)=t:=by omega
 have ac:=z4 l bm;rw [zn] at jf ac;have hx:=eH hl bm;rw [zn] at hx;have cj:=K7 hl ht.1 ht.2;have nc:UC l t=(HA l t).kind:=by rw [<- zn]; exact kdAt_nd l bm
 obtain ⟨xk,xa,xb,xc,_⟩:=ZN _ hx;unfold PE;unfold RD;have ho:tB T.length t=false:=by simp [tB]; omega
 rw [ho,y4 hjT];generalize hf:RD T _=f;clear hf;have hk:=j9 jf;rw [ac] at hk;unfold CL at hi ⊢;by_cases h56:UC l t=5\/UC l t=6
 ·rw [if_pos h56] at hi; cases hi
 rw [if_neg h56];have e6:¬ (UC l t=6/\(uF l t false (HA l t).parts).isEmpty=true):=fun e=>h56 (.inr e.1)
 rw [if_neg e6] at hk;obtain ⟨bs,ph,hb⟩:=jf;rw [hb] at hk ⊢;simp only [Bool.not_false,Bool.true_and];have ai:inK l t=(IB l t).kind:=by
  unfold inK;by_cases h8:UC l t=8
  ·by_cases hn:TK l 0<0
   ·have jl:=r3 hl (by omega) xb.1 hn;rw [if_pos ⟨h8,hn⟩];rw [if_pos ⟨h8,jl⟩] at hk;exact hk.symm
   ·have jl:¬ TK l (HA l t).b<0:=fun q=>hn (r3 hl xb.1 (by omega) q)
    rw [if_neg (fun q=>hn q.2)];rw [if_neg (fun q=>jl q.2),if_pos (by omega)] at hk;exact hk.symm
  ·rw [if_neg (fun q=>h8 q.1)];rw [if_neg (fun q=>h8 q.1)] at hk;by_cases h9:UC l t<=8
   ·rw [if_pos ⟨by omega,h9⟩] at hk; exact hk.symm
   ·rw [if_neg (fun q=>h9 q.2)] at hk;show UC l t=_;have:(IB l t).kind=9:=hk;omega
 rw [ai];have hzV:∀ (k:Int) (b:Bool) (i:Int) (s:ByteArray) (d:Int),(k=1\/b=false)->(k=2\/i=0)->(k=3\/s=⟨#[]⟩)->(k=4\/k=6\/d=0)->OC (Vl.of k b i s d)=true:=fun k b i s d h1 h2 h3 h4=>by
  simp only [OC,Vl.of,Vl.kind,Vl.b,Vl.i,Vl.s,Vl.id,Vl.keys,Vl.items,Vl.rest,List.isEmpty_nil,Bool.or_true,Bool.and_true,y7,Bool.or_eq_true,decide_eq_true_eq,Bool.not_eq_true',or_assoc];exact ⟨h1.imp (fun h=>decide_eq_true h) id,h2.imp (fun h=>decide_eq_true h) (fun h=>decide_eq_true h),h3.imp (fun h=>decide_eq_true h) (fun h=>decide_eq_true h),h4.imp (fun h=>decide_eq_true h) (Or.imp (fun h=>decide_eq_true h) (fun h=>decide_eq_true h))⟩
 by_cases k1:UC l t=1
 ·have hz:(IB l t).kind=1:=by simp [IB,<- nc,k1,gA.of]
  rw [hz];simp [Vl.of,Vl.kind,lJ,OC,Vl.b,Vl.i,Vl.s,Vl.id,Vl.keys,Vl.items,Vl.rest,k1]
 by_cases k2:UC l t=2
 ·have hz:(IB l t).kind=2:=by simp [IB,<- nc,k2,gA.of]
  have jy:(IB l t).low=(HA l t).low:=by simp [IB,<- nc,k2,gA.of]
  have gp:(IB l t).high=(HA l t).high:=by simp [IB,<- nc,k2,gA.of]
  rw [hz,jy,gp];have h1:=yJ c (show (HA l t).b % 6 + 1≠0 by have:=xb.1; omega);have h2:=yM c (show 0<(HA l t).b % 6 + 1 by have:=xb.1; omega);have h3:(HA l t).low<=(HA l t).low + c % ((HA l t).b % 6 + 1):=by omega
  have h4:(HA l t).low + c % ((HA l t).b % 6 + 1)<=(HA l t).high:=by simp only [OD.high]; omega
  simp [Vl.of,Vl.kind,lJ,OC,Vl.b,Vl.i,Vl.s,Vl.id,Vl.keys,Vl.items,Vl.rest,k2,h3,h4,h1]
 by_cases k3:UC l t=3
 ·have hz:(IB l t).kind=3:=by simp [IB,<- nc,k3,gA.of]
  have jk:(IB l t).max=(HA l t).a % 4:=by simp [IB,<- nc,k3,gA.of]
  have h0:0<=(HA l t).a % 4:=by omega
  have hs0:(⟨#[]⟩:ByteArray).size=0:=rfl;have mo:(⟨#[97]⟩:ByteArray).size=1:=rfl;rw [hz,jk];by_cases hq:0<(HA l t).a % 4/\c % 2=1
  ·have h1:1<=(HA l t).a % 4:=by omega
   simp [Vl.of,Vl.kind,lJ,OC,Vl.b,Vl.i,Vl.s,Vl.id,Vl.keys,Vl.items,Vl.rest,k3,hq,mo,h1]
  ·simp [Vl.of,Vl.kind,lJ,OC,Vl.b,Vl.i,Vl.s,Vl.id,Vl.keys,Vl.items,Vl.rest,k3,hq,hs0,h0]
 by_cases k4:UC l t=4
 ·have hz:(IB l t).kind=4:=by simp [IB,<- nc,k4,gA.of]
  have tn:(IB l t).syms=xI (HA l t).a:=by simp [IB,<- nc,k4,gA.of]
  have hm:=idAt_mem (HA l t).a c hc;rw [hz,tn];simp [Vl.of,Vl.kind,lJ,OC,Vl.b,Vl.i,Vl.s,Vl.id,Vl.keys,Vl.items,Vl.rest,k4,hm]
 have hz:7<=(IB l t).kind/\(IB l t).kind<=9:=by
  rw [ac,if_neg e6];split
  ·omega
  ·split <;> omega
 have jk:(IB l t).kind<=8->0<=(IB l t).max:=fun h8=>by
  by_cases k7:UC l t=7
  ·have:(IB l t).max=(HA l t).a % 4:=by simp [IB,<- nc,k7,gA.of]
   omega
  by_cases k8:UC l t=8
  ·by_cases hc:TK l (HA l t).b<0
   ·have:(IB l t).max=(HA l t).a % 4:=by simp [IB,<- nc,k8,hc,gA.of]
    omega
   ·have:(IB l t).max=(HA l t).a % 4:=by simp [IB,<- nc,k8,hc,gA.of]
    omega
  have k9:UC l t=9:=by omega
  have:(IB l t).kind=9:=by simp [IB,<- nc,k9,gA.of]
  omega
 generalize (IB l t).kind=kk at *
 have q1:¬ kk=1:=by omega
 have q2:¬ kk=2:=by omega
 have q3:¬ kk=3:=by omega
 have q4:¬ kk=4:=by omega
 have q5:¬ kk=5:=by omega
 have q6:¬ kk=6:=by omega
 have eb:lJ f { kind:=kk,name:=(IB l t).name,low:=(IB l t).low,high:=(IB l t).high,max:=(IB l t).max,sn:=(IB l t).sn,syms:=(IB l t).syms,mn:=bs.isEmpty,mems:=bs,key:=(IB l t).key,elem:=(IB l t).elem,opn:=(IB l t).opn } (Vl.of kk false 0 ⟨#[]⟩ 0)=true:=by
  simp only [lJ,q1,q2,q3,q4,q5,q6,if_false,Vl.of,Vl.items,Vl.keys];by_cases k7:kk=7
  ·simp [k7,jk (by omega)]
  by_cases k8:kk=8
  ·simp [k8,jk (by omega),kL]
  simp [k7,k8]
 simp only [k1,k2,k3,k4,false_and,if_false,decide_false];rw [hzV kk false 0 ⟨#[]⟩ 0 (.inr rfl) (.inr rfl) (.inr rfl) (.inr (.inr rfl)),eb];simp [Vl.of,Vl.kind]
theorem IX {S:List gA} (h:∀ t∈S,jI S t=none):∀ n i,LD S n i=none
 | 0,i=>rfl
 | n + 1,i=>by
  rw [LD];cases hi:S[i]? with
  | none=>rfl
  | some t =>
   simp only [h t (yQ hi)];exact IX h n (i + 1)
theorem rwS_err {l:List OD} (hl:oks l) {T:List gA} (h:rwS l.length (lF l) T):AB T=0:=by
 unfold AB;rw [if_pos (rwS_valid hl h),IX fun t ht=>?_];obtain ⟨i,hi,rfl⟩:=yy ht;have ep:i<l.length:=by rw [<- LT h]; exact hi
 unfold jI;rw [Option.map_eq_none_iff,List.find?_eq_none];intro m hm;obtain ⟨bs,ph,hb⟩:=KT h hi;have tb:m∈bs:=by rw [hb] at hm; exact hm
 obtain ⟨j,hj,rfl⟩:=yy tb;have oz:j<(IB l (i:Int)).mems.length:=by rw [ph.1]; exact hj
 have hr:=ph.2 j _ _ (y4 oz) (y4 hj);unfold DM;rcases hr.2.2.2 with h4 | ⟨_,_,h5,_⟩
 ·rw [h4];have hmz:∃ rc id p,p.ok/\BM l (i:Int) id p=true/\(IB l (i:Int)).mems[j]=sO l (i:Int) rc id p:=by
   have jb:=y5 oz;generalize (IB l (i:Int)).mems[j]=m at *
   have hx:=eH hl ep;unfold IB at jb;generalize HA l (i:Int)=x at *
   have hp:∀ rc,m∈uF l (i:Int) rc x.parts->∃ rc id p,p.ok/\BM l (i:Int) id p=true/\m=sO l (i:Int) rc id p:=fun rc jb=>by
    obtain ⟨id,p,_,_,h1,h2,h3⟩:=dO 12 m jb;exact ⟨rc,id,p,hx.2.2.2.2.2 p h1,h2,h3⟩
   simp only at jb;split at jb <;> first | (simp [gA.of] at jb; done) | exact hp _ jb | skip
   all_goals split at jb <;> first | (simp [gA.of] at jb; done) | exact hp _ jb
  obtain ⟨rc,id,p,hpo,hp,he⟩:=hmz;rw [he];simp only [BM,decide_eq_true_eq] at hp;have hrg:=HZ hl (i:Int) p.ty (by omega);cases hh:(sO l (i:Int) rc id p).has with
  | false=>simp
  | true =>
   simp only [sO,y7,decide_eq_true_eq] at hh;have:=init_plain hl h ⟨hp.2,hrg.2⟩ (c:=p.flag / 4) (by have:=hpo.2.2.1; omega) hh.2;simp [sO,hh.1,this]
 ·simp [h5]
end Go.Proofs.YtjoaiabjebpbjaaGreat
