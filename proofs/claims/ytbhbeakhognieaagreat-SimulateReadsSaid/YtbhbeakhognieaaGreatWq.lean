/- A part of the proof. -/
import Derived.Test.YtbhbeakhognieaaGreatWj
import Derived.Test.YtbhbeakhognieaaGreatWk
import Derived.Test.YtbhbeakhognieaaGreatWl
set_option linter.all false
set_option maxRecDepth 100000
set_option maxHeartbeats 8000000
open Option renaming bind_some → J
open List renaming getElem?_eq_getElem → y5, all_eq_true → y6, getElem_mem → y8, getElem?_eq_some_iff → y9, map_cons → yf, mem_cons → yg, mem_of_getElem? → yh, mem_cons_self → yl, map_nil → ym, mem_cons_of_mem → yo, mem_map → yp, getElem_of_mem → yq, length_map → yu, mem_append → yx, map_append → yH, length_take → yL, eq_nil_of_length_eq_zero → yM, mem_singleton → yO, getElem?_eq_none → yY, length_pos_iff → Y02
open Bool renaming and_eq_true → y7, false_eq_true → yA, or_eq_true → yT
open Int renaming emod_nonneg → yC, emod_lt_of_pos → yD
namespace Go.Proofs.YtbhbeakhognieaaGreat
open Go
theorem qK {l:List fC} {i:Int} {rc:Bool} {ps:List pQ}:∀ (n:Nat) (m:zB),m∈zJ l i rc ps n->∃ id p,1<=id/\id<=(n:Int)/\p∈ps/\TH l i id p=true/\m=GK l i rc id p
 | 0,m,h=>by simp [zJ] at h
 | n + 1,m,h=>by
  rw [zJ] at h;rcases yx.1 h with h | h
  ·obtain ⟨id,p,h1,h2,h3⟩:=qK n m h;exact ⟨id,p,h1,by omega,h3⟩
  ·unfold PP at h;split at h
   ·rename_i p hp;simp only [yO] at h;exact ⟨((n + 1:Nat):Int),p,by omega,by omega,List.mem_of_find?_eq_some hp,List.find?_some hp,h⟩
   ·cases h
theorem init_ok {l:List fC} (hl:oks l) (t code:Int) (hc:0<=code):(DJ l t code).1.ok/\(DJ l t code).1.i64:=by
 have hx:u8 (DA l t).a/\u8 (DA l t).b:=by
  unfold DA;cases h:l[t.toNat]? with
  | none=>exact ⟨⟨by decide,by decide⟩,⟨by decide,by decide⟩⟩
  | some x =>
   have:=hl.2.2 x (yh h);exact ⟨this.2.1,this.2.2.1⟩
 obtain ⟨⟨a0,a1⟩,⟨b0,b1⟩⟩:=hx;unfold DJ;split
 ·exact ⟨by rw [Vl.ok_def]; simp [Vl.of,Vl.keys,Vl.items,Vl.rest,Vl.s]; decide,by rw [Vl.i64_def]; simp [Vl.of,Vl.keys,Vl.items,Vl.i,zH]⟩
 ·refine ⟨?_,?_⟩
  ·rw [Vl.ok_def];refine ⟨by simp [Vl.of,Vl.keys],by simp [Vl.of,Vl.items],by simp [Vl.of,Vl.rest],?_,by simp [Vl.of,Vl.keys],by simp [Vl.of,Vl.items]⟩;simp only [Vl.of,Vl.s];split <;> exact (by decide)
  ·rw [Vl.i64_def];refine ⟨?_,by simp [Vl.of,Vl.keys],by simp [Vl.of,Vl.items]⟩;simp only [Vl.of,Vl.i,zH];split
   ·have hm:0<(DA l t).b % 6 + 1:=by omega
    have:=yC code (show (DA l t).b % 6 + 1≠0 by omega);have:=yD code hm;simp only [fC.low];omega
   ·omega
theorem memZ_ok {l:List fC} (hl:oks l) {i:Int} {rc:Bool} {id:Int} {p:pQ} (hp:p.ok):(GK l i rc id p).ok/\(GK l i rc id p).dflt.i64:=by
 have hf:0<=p.flag / 4:=by have:=hp.2.2.1; omega
 obtain ⟨h1,h2⟩:=init_ok hl (PG l i p.ty) (p.flag / 4) hf;have hz:Vl.zero.ok/\Vl.zero.i64:=⟨by rw [Vl.ok_def]; simp [Vl.zero,Vl.keys,Vl.items,Vl.rest,Vl.s]; decide,by rw [Vl.i64_def]; simp [Vl.zero,Vl.keys,Vl.items,Vl.i,zH]⟩;have hn:(GK l i rc id p).name.size<=9223372036854775807:=by
  have:=BW (97 + id);have h1:(⟨#[109]⟩:ByteArray).size=1:=rfl;simp only [GK,TN,ByteArray.size_append];omega
 refine ⟨⟨?_,hn⟩,?_⟩ <;> simp only [GK] <;> split <;> first | exact h1 | exact h2 | exact hz.1 | exact hz.2
theorem typZ_ok {l:List fC} (hl:oks l) (i:Nat) (hi:i<l.length):(kB l (i:Int)).fine/\(kB l (i:Int)).d64:=by
 have hx:=jF hl hi;have hm:∀ rc,∀ m∈lE l (i:Int) rc (DA l (i:Int)).parts,m.ok/\m.dflt.i64:=fun rc m h=>by
  obtain ⟨id,p,_,_,h1,_,rfl⟩:=qK 12 m h;exact memZ_ok hl (hx.2.2.2.2.2 p h1)
 have ia:∀ rc,(lE l (i:Int) rc (DA l (i:Int)).parts).length<=12:=fun rc=>LK l _ rc _ 12
 have hs:(BH (DA l (i:Int)).a).length<=6:=by
  have:=ES (DA l (i:Int)).a;simp only [BH,yu];omega
 have base:∀ k nm,(pA.of k nm).fine/\(pA.of k nm).d64:=fun k nm=>⟨⟨⟨by simp [pA.of],by simp [pA.of],by simp [pA.of]⟩,by simp [pA.of],by simp [pA.of]⟩,by simp [pA.d64,pA.of]⟩
 have za:∀ t:pA,t.syms.length<=6->t.mems.length<=12->(∀ m∈t.mems,m.ok/\m.dflt.i64)->t.fine/\t.d64:=fun t h1 h2 h3=>⟨⟨⟨by omega,by omega,fun m hm=>(h3 m hm).1⟩,by omega,by omega⟩,fun m hm=>(h3 m hm).2⟩
 unfold kB;simp only;split
 ·exact base _ _
 ·exact za _ (by simp [pA.of]) (by simp [pA.of]) (by simp [pA.of])
 ·exact za _ (by simp [pA.of]) (by simp [pA.of]) (by simp [pA.of])
 ·exact za _ hs (by simp [pA.of]) (by simp [pA.of])
 ·exact za _ (by simp [pA.of]) (ia _) (hm _)
 ·split
  ·exact base _ _
  ·exact za _ (by simp [pA.of]) (ia _) (hm _)
 ·exact za _ (by simp [pA.of]) (by simp [pA.of]) (by simp [pA.of])
 ·split <;> exact za _ (by simp [pA.of]) (by simp [pA.of]) (by simp [pA.of])
 ·exact za _ (by simp [pA.of]) (by simp [pA.of]) (by simp [pA.of])
theorem rwT_ok {n:Nat} {a b:pA} (h:rwT n a b) (ha:a.fine/\a.d64):b.fine/\b.d64:=by
 obtain ⟨bs,⟨hl,hm⟩,rfl⟩:=h;obtain ⟨⟨⟨h1,h2,h3⟩,h4,h5⟩,h6⟩:=ha;have hz:Vl.zero.ok/\Vl.zero.i64:=⟨by rw [Vl.ok_def]; simp [Vl.zero,Vl.keys,Vl.items,Vl.rest,Vl.s]; decide,by rw [Vl.i64_def]; simp [Vl.zero,Vl.keys,Vl.items,Vl.i,zH]⟩;have hb:∀ m∈bs,m.ok/\m.dflt.i64:=fun m la=>by
  obtain ⟨i,hi,rfl⟩:=yq la;have hia:i<a.mems.length:=by omega
  obtain ⟨g1,g2,g3,g4⟩:=hm i _ _ (y5 hia) (y5 hi);have hao:=h3 _ (y8 hia);have had:=h6 _ (y8 hia);rcases g4 with g4 | ⟨_,_,_,g4⟩
  ·rw [g4]; exact ⟨hao,had⟩
  ·exact ⟨⟨by rw [g4]; exact hz.1,by rw [g2]; exact hao.2⟩,by rw [g4]; exact hz.2⟩
 exact ⟨⟨⟨h1,by dsimp only; omega,fun m la=>(hb m la).1⟩,h4,by dsimp only; omega⟩,fun m la=>(hb m la).2⟩
theorem rwS_ok {l:List fC} (hl:oks l) {T:List pA} (h:rwS l.length (lA l) T):(⟨false,T⟩:FI).fine/\(⟨false,T⟩:FI).d64:=by
 obtain ⟨ia,h⟩:=h;have hl5:=hl.2.1;have hdl:(lA l).length=l.length:=by simp [lA]
 have hT:∀ t∈T,t.fine/\t.d64:=fun t ht=>by
  obtain ⟨i,hi,rfl⟩:=yq ht;have nd:i<l.length:=by omega
  have:=h i (kB l (i:Int)) _ (by simp [lA,nd]) (y5 hi);exact rwT_ok this (typZ_ok hl i nd)
 exact ⟨⟨by dsimp only; omega,fun t ht=>(hT t ht).1⟩,fun t ht=>(hT t ht).2⟩
theorem mName_ok:∀ d:Fin 13,xF (TN (d.val:Int))=true:=by decide +kernel
theorem mName_inj:∀ d e:Fin 13,TN (d.val:Int)=TN (e.val:Int)->d=e:=by decide +kernel
theorem H8:∀ d:Fin 5,xF (GJ (d.val:Int))=true:=by decide +kernel
theorem tName_inj:∀ d e:Fin 5,GJ (d.val:Int)=GJ (e.val:Int)->d=e:=by decide +kernel
theorem symsZ_ok:∀ a:Fin 256,gM (BH (a.val:Int))=true:=by decide +kernel
theorem mName_ok' {d:Int} (h:0<=d/\d<=12):xF (TN d)=true:=by
 have:=mName_ok ⟨d.toNat,by omega⟩
 rwa [show ((d.toNat:Nat):Int)=d from by omega] at this
theorem mName_inj' {d e:Int} (h:0<=d/\d<=12) (h':0<=e/\e<=12) (he:TN d=TN e):d=e:=by
 have:=mName_inj ⟨d.toNat,by omega⟩ ⟨e.toNat,by omega⟩;simp only [show ((d.toNat:Nat):Int)=d from by omega,show ((e.toNat:Nat):Int)=e from by omega] at this;have:=congrArg Fin.val (this he);simp only at this;omega
theorem H6:∀ (L:List Int) (b:Int) (seen:List ByteArray),0<=b->(∀ d∈L,b<d/\d<=12)->L.Pairwise (·<·)->(∀ s∈seen,∃ j,0<=j/\j<=b/\s=TN j)->IC b seen (L.map fun d=>(d,TN d))=true
 | [],_,_,_,_,_,_=>rfl
 | d :: r,b,seen,hb,hd,hp,hs=>by
  have h1:=hd d yl;rw [List.pairwise_cons] at hp;simp only [yf,IC,y7,Bool.not_eq_true'];refine ⟨⟨⟨?_,?_⟩,mName_ok' (by omega)⟩,H6 r d (seen++[TN d]) (by omega) (fun e he=>⟨hp.1 e he,(hd e (yo _ he)).2⟩) hp.2 fun s cj=>?_⟩
  ·simp only [fR,y7,decide_eq_true_eq];omega
  ·refine QS fun pe=>?_
   obtain ⟨j,j0,j1,hj⟩:=hs _ pe;have:=mName_inj' (by omega) (by omega) hj;omega
  ·rcases yx.1 cj with cj | cj
   ·obtain ⟨j,j0,j1,hj⟩:=hs s cj;exact ⟨j,j0,by omega,hj⟩
   ·rw [yO] at cj;exact ⟨d,by omega,by omega,cj⟩
theorem zY (l:List fC) (i:Int) (rc:Bool) (ps:List pQ):∀ n:Nat,∃ L:List Int,(zJ l i rc ps n).map gF=L.map (fun d=>(d,TN d))/\L.Pairwise (·<·)/\∀ d∈L,1<=d/\d<=(n:Int)
 | 0=>⟨[],rfl,List.Pairwise.nil,fun d h=>by cases h⟩
 | n + 1=>by
  obtain ⟨L,h1,h2,h3⟩:=zY l i rc ps n;rw [zJ,yH,h1];unfold PP;split
  ·refine ⟨L++[((n + 1:Nat):Int)],by simp [gF,GK],?_,fun d hd=>?_⟩
   ·rw [List.pairwise_append];refine ⟨h2,List.pairwise_singleton _ _,fun a ha b hb=>?_⟩;rw [yO] at hb;have:=h3 a ha;omega
   ·rcases yx.1 hd with hd | hd
    ·have:=h3 d hd; omega
    ·rw [yO] at hd; omega
  ·exact ⟨L,by simp,h2,fun d hd=>by have:=h3 d hd; omega⟩
theorem rwL_ents {n:Nat} {xs bs:List zB} (h:rwL n xs bs):bs.map gF=xs.map gF:=by
 refine List.ext_getElem (by simp [h.1]) fun i h1 h2=>?_
 simp only [yu] at h1 h2;have:=h.2 i xs[i] bs[i] (y5 h2) (y5 h1);simp only [List.getElem_map,gF,this.1,this.2.1]
theorem init_no {l:List fC} {t c:Int} (h:(DJ l t c).2=false):(DJ l t c).1=Vl.zero:=by
 unfold DJ at h ⊢;split at h
 ·rename_i hc;rw [if_pos hc];rfl
 ·cases h
theorem memZ_good (l:List fC) (i:Int) (rc:Bool) (id:Int) (p:pQ):AB rc (GK l i rc id p)=true:=by
 by_cases h2:2<=p.flag % 4
 ·have h1:¬ p.flag % 4=1:=by omega
  cases rc with
  | false=>simp [AB,GK,Vl.same_refl]
  | true =>
   cases h3:(DJ l (PG l i p.ty) (p.flag / 4)).2 with
   | false=>simp [AB,GK,h1,h2,h3,init_no h3,Vl.same_refl]
   | true=>simp [AB,GK,h1,h2,h3]
 ·cases rc <;> simp [AB,GK,h2,Vl.same_refl]
theorem rwM_good {n:Nat} {rc:Bool} {a b:zB} (h:rwM n a b) (ha:AB rc a=true):AB rc b=true:=by
 obtain ⟨h1,h2,h3,h4⟩:=h;rcases h4 with rfl | ⟨_,_,h5,h6⟩
 ·exact ha
 ·simp only [AB,h3,h5,h6,Vl.same_refl] at ha ⊢;cases rc <;> cases hc:a.crit <;> simp [hc] at ha ⊢
theorem U2 {l:List fC} {i:Int} {rc:Bool} {ps:List pQ} {n:Nat} {bs:List zB} (h:rwL n (lE l i rc ps) bs) (ma:rc=true\/bs≠[]):IG rc bs=true:=by
 obtain ⟨L,h1,h2,h3⟩:=zY l i rc ps 12;have ia:bs.length<=12:=by rw [<- h.1]; exact LK l i rc ps 12
 have hents:IC 0 [] (bs.map gF)=true:=by
  rw [rwL_ents h,show (lE l i rc ps).map gF=_ from h1];exact H6 L 0 [] (by omega) (fun d hd=>by have:=h3 d hd; omega) h2 (fun s hs=>by cases hs)
 have za:bs.all (AB rc)=true:=y6.2 fun b hb=>by
  obtain ⟨j,hj,rfl⟩:=yq hb;have oy:j<(lE l i rc ps).length:=by rw [h.1]; exact hj
  have hm:=h.2 j _ _ (y5 oy) (y5 hj);obtain ⟨id,p,_,_,_,_,he⟩:=qK 12 _ (y8 oy);refine rwM_good hm ?_;rw [he];exact memZ_good l i rc id p
 have lb:rc=true\/0<bs.length:=ma.imp id fun h=>Y02.2 h
 simp only [IG,za,hents,Bool.true_and,y7,yT,decide_eq_true_eq];exact ⟨lb,by omega⟩
theorem key_neg {l:List fC} {code:Int}:∀ n k,pG l code n k<0->(∀ m,0<=(code + (m:Int)) % l.length)->∀ m:Nat,k<=m->m<k + n->UV (dC l ((code + m) % l.length))=false
 | 0,k,_,_,m,h1,h2=>by omega
 | n + 1,k,h,hp,m,h1,h2=>by
  simp only [pG] at h;split at h
  ·have:=hp k; omega
  ·rename_i hk;by_cases e:m=k
   ·subst e;simpa using hk
   ·exact key_neg n (k + 1) h hp m (by omega) (by omega)
theorem key_is {l:List fC} {code:Int}:∀ n k,0<=pG l code n k->UV (dC l (pG l code n k))=true
 | 0,k,h=>by simp [pG] at h
 | n + 1,k,h=>by
  simp only [pG] at h ⊢;split
  ·assumption
  ·rename_i hk;rw [if_neg hk] at h;exact key_is n (k + 1) h
theorem keyZ_neg {l:List fC} (hl:oks l) {c:Int} (hc:0<=c) (h:NJ l c<0) {z:Int} (h0:0<=z) (h1:z<l.length):UV (dC l z)=false:=by
 have hp:=hl.1;have hn:(l.length:Int)≠0:=by omega
 have lb:∀ m,0<=(c + (m:Int)) % l.length:=fun m=>yC _ hn
 have:=key_neg (l:=l) (code:=c) l.length 0 h lb ((z - c) % l.length).toNat (by omega) (by
  have:=yD (z - c) (b:=(l.length:Int)) (by omega);omega)
 have h2:=yC (z - c) hn;rw [show (((z - c) % l.length).toNat:Int)=(z - c) % l.length from by omega,Int.add_emod_emod] at this;rw [show c + (z - c)=z from by omega,Int.emod_eq_of_lt h0 h1] at this;exact this
theorem G1 {l:List fC} (hl:oks l) {c d:Int} (hc:0<=c) (hd:0<=d) (h:NJ l c<0):NJ l d<0:=by
 by_cases h':NJ l d<0
 ·exact h'
 ·have h1:=key_is (l:=l) (code:=d) l.length 0 (by simpa [NJ] using h');have h2:=EP hl d l.length 0;have h3:=keyZ_neg hl hc h (z:=NJ l d) (by omega) (by unfold NJ; omega);unfold NJ at h3;rw [h3] at h1;cases h1
structure TypD (l:List fC) (i:Nat) (b:pA):Prop where
 good:dB b=true
 nm:b.named=true->b.name=GJ (i:Int)
 uses:∀ u∈b.usesL,0<=u/\u<l.length
 key:b.kind=8->UV (dC l b.key)=true
theorem UL {n:Nat} {bs:List zB} (h:rwL n [] bs):bs=[]:=yM h.1.symm
theorem U7 {l:List fC} (hl:oks l) {i:Nat} (hi:i<l.length) {rc:Bool} {ps:List pQ} {bs:List zB} (h:rwL l.length (lE l (i:Int) rc ps) bs):∀ u∈bs.map zB.ty,0<=u/\u<l.length:=fun u hu=>by
 obtain ⟨b,hb,rfl⟩:=yp.1 hu;obtain ⟨j,hj,rfl⟩:=yq hb;have oy:j<(lE l (i:Int) rc ps).length:=by rw [h.1]; exact hj
 have hm:=h.2 j _ _ (y5 oy) (y5 hj);obtain ⟨id,p,_,_,_,hp,he⟩:=qK 12 _ (y8 oy);rcases hm.2.2.2 with h4 | ⟨h4,h5,_⟩
 ·rw [h4,he];simp only [TH,decide_eq_true_eq] at hp;exact ⟨hp.2,(eQ hl (i:Int) p.ty (by omega)).2⟩
 ·exact ⟨h4,h5⟩
theorem typ_d {l:List fC} (hl:oks l) {i:Nat} (hi:i<l.length) {b:pA} (h:rwT l.length (kB l (i:Int)) b):TypD l i b:=by
 obtain ⟨bs,rf,rfl⟩:=h;have hx:=jF hl hi;obtain ⟨xk,xa,xb,xc,_⟩:=E5 _ hx;have hl5:=hl.2.1;have hn:(l.length:Int)≠0:=by omega
 have xq:=i7 hx;have ab:xF (GJ (i:Int))=true:=H8 ⟨i,by omega⟩;have ad:gM (BH (DA l (i:Int)).a)=true:=by
  have:=symsZ_ok ⟨(DA l (i:Int)).a.toNat,by have:=xa.2; have:=xa.1; omega⟩
  rwa [show (((DA l (i:Int)).a.toNat:Nat):Int)=(DA l (i:Int)).a from by have:=xa.1; omega] at this
 have tp:0<=(DA l (i:Int)).c % l.length/\(DA l (i:Int)).c % l.length<l.length:=⟨yC _ hn,yD _ (by omega)⟩;unfold kB at rf ⊢;generalize DA l (i:Int)=x at *
 by_cases k1:x.kind=1
 ·simp only [k1] at rf ⊢;obtain rfl:=UL rf;exact ⟨by simp [dB,LG,pA.left,pA.same,tC,pA.of,jB],fun h=>by simp [pA.named,pA.of] at h,fun u hu=>by simp [pA.usesL,pA.of] at hu,fun h=>by simp [pA.of] at h⟩
 by_cases k2:x.kind=2
 ·simp only [k2] at rf ⊢;obtain rfl:=UL rf;have hlh:x.low<=x.high:=by
   simp only [fC.high];have:=yC x.b (show (6:Int)≠0 by decide);omega
  exact ⟨by simp [dB,LG,pA.left,pA.same,tC,pA.of,jB,hlh],fun h=>by simp [pA.named,pA.of] at h,fun u hu=>by simp [pA.usesL,pA.of] at hu,fun h=>by simp [pA.of] at h⟩
 by_cases k3:x.kind=3
 ·simp only [k3] at rf ⊢;obtain rfl:=UL rf;exact ⟨by simp [dB,LG,pA.left,pA.same,tC,pA.of,jB]; omega,fun h=>by simp [pA.named,pA.of] at h,fun u hu=>by simp [pA.usesL,pA.of] at hu,fun h=>by simp [pA.of] at h⟩
 by_cases k4:x.kind=4
 ·simp only [k4] at rf ⊢;obtain rfl:=UL rf;exact ⟨by simp [dB,LG,pA.left,pA.same,tC,pA.of,jB,ab,ad],fun h=>by simp [pA.of],fun u hu=>by simp [pA.usesL,pA.of] at hu,fun h=>by simp [pA.of] at h⟩
 by_cases k5:x.kind=5
 ·simp only [k5] at rf ⊢;have hg:=U2 rf (.inl rfl);have hu:=U7 hl hi rf;exact ⟨by simp [dB,LG,pA.left,pA.same,tC,pA.of,jB,ab,hg],fun h=>by simp [pA.of],fun u h=>hu u (by simpa [pA.usesL,pA.of] using h),fun h=>by simp [pA.of] at h⟩
 by_cases k6:x.kind=6
 ·simp only [k6] at rf ⊢;by_cases he:(lE l (i:Int) false x.parts).isEmpty=true
  ·simp only [he,if_true] at rf ⊢;obtain rfl:=UL rf;exact ⟨by simp [dB,LG,pA.left,pA.same,tC,pA.of,jB,ab,IG,IC],fun h=>by simp [pA.of],fun u hu=>by simp [pA.usesL,pA.of] at hu,fun h=>by simp [pA.of] at h⟩
  ·simp only [he,if_false,yA] at rf ⊢;have ma:bs≠[]:=fun e=>by
    rw [e] at rf;have:=rf.1;simp only [List.length_nil] at this;rw [yM this] at he;simp at he
   have hg:=U2 rf (.inr ma);have hu:=U7 hl hi rf;exact ⟨by simp [dB,LG,pA.left,pA.same,tC,pA.of,jB,ab,hg],fun h=>by simp [pA.of],fun u h=>hu u (by simpa [pA.usesL,pA.of] using h),fun h=>by simp [pA.of] at h⟩
 by_cases k7:x.kind=7
 ·simp only [k7] at rf ⊢;obtain rfl:=UL rf;exact ⟨by simp [dB,LG,pA.left,pA.same,tC,pA.of,jB]; omega,fun h=>by simp [pA.named,pA.of] at h,fun u hu=>by simp [pA.usesL,pA.of] at hu; rw [hu]; exact tp,fun h=>by simp [pA.of] at h⟩
 by_cases k8:x.kind=8
 ·simp only [k8] at rf ⊢;by_cases hc:NJ l x.b<0
  ·simp only [if_pos hc] at rf ⊢;obtain rfl:=UL rf;exact ⟨by simp [dB,LG,pA.left,pA.same,tC,pA.of,jB]; omega,fun h=>by simp [pA.named,pA.of] at h,fun u hu=>by simp [pA.usesL,pA.of] at hu; rw [hu]; exact tp,fun h=>by simp [pA.of] at h⟩
  ·simp only [if_neg hc] at rf ⊢;obtain rfl:=UL rf;have xq:=EP hl x.b l.length 0;refine ⟨by simp [dB,LG,pA.left,pA.same,tC,pA.of,jB]; omega,fun h=>by simp [pA.named,pA.of] at h,fun u hu=>?_,fun h=>key_is l.length 0 (by simpa [NJ] using hc)⟩;simp [pA.usesL,pA.of] at hu;rcases hu with rfl | rfl
   ·exact ⟨by omega,xq.2⟩
   ·exact tp
 have k9:x.kind=9:=by omega
 simp only [k9] at rf ⊢;obtain rfl:=UL rf;exact ⟨by simp [dB,LG,pA.left,pA.same,tC,pA.of,jB],fun h=>by simp [pA.named,pA.of] at h,fun u hu=>by simp [pA.usesL,pA.of] at hu; rw [hu]; exact tp,fun h=>by simp [pA.of] at h⟩
theorem kdAt_nd (l:List fC) {j:Nat} (hj:j<l.length):dC l (j:Int)=(DA l (j:Int)).kind:=by
 simp [dC,DA,y5 hj]
theorem FN (l:List fC) {j:Nat} (hj:j<l.length):(kB l (j:Int)).kind=(if dC l (j:Int)=6/\(lE l (j:Int) false (DA l (j:Int)).parts).isEmpty=true then 5 else if dC l (j:Int)=8/\NJ l (DA l (j:Int)).b<0 then 7 else if 1<=dC l (j:Int)/\dC l (j:Int)<=8 then dC l (j:Int) else 9):=by
 rw [kdAt_nd l hj];unfold kB;generalize DA l (j:Int)=x;simp only;split
 ·rename_i h; simp [h,pA.of]
 ·rename_i h; simp [h,pA.of]
 ·rename_i h; simp [h,pA.of]
 ·rename_i h; simp [h,pA.of]
 ·rename_i h; simp [h,pA.of]
 ·rename_i h;split
  ·rename_i h'; simp [h,h',pA.of]
  ·rename_i h'; simp [h,h',pA.of]
 ·rename_i h; simp [h,pA.of]
 ·rename_i h;split
  ·rename_i h'; simp [h,h',pA.of]
  ·rename_i h'; simp [h,h',pA.of]
 ·rename_i h1 h2 h3 h4 h5 h6 h7 h8;have e6:¬ x.kind=6:=h6;have e8:¬ x.kind=8:=h8;have hr:¬ (1<=x.kind/\x.kind<=8):=fun ⟨a,b⟩=>by
   have q1:¬ x.kind=1:=h1;have q2:¬ x.kind=2:=h2;have q3:¬ x.kind=3:=h3;have q4:¬ x.kind=4:=h4;have q5:¬ x.kind=5:=h5;have q7:¬ x.kind=7:=h7;omega
  simp [e6,e8,hr,pA.of]
theorem mT {n:Nat} {l:List fC} {T:List pA} (h:rwS n (lA l) T):T.length=l.length:=by
 have:=h.1;simp [lA] at this;exact this.symm
theorem xO {l:List fC} {T:List pA} (h:rwS l.length (lA l) T) {i:Nat} (hi:i<T.length):rwT l.length (kB l (i:Int)) T[i]:=by
 have nd:i<l.length:=by rw [<- mT h]; exact hi
 exact h.2 i _ _ (by simp [lA,nd]) (y5 hi)
theorem KY {n:Nat} {a b:pA} (h:rwT n a b):b.kind=a.kind:=by
 obtain ⟨bs,_,rfl⟩:=h;rfl
theorem TT {l:List pA} (h:∀ i,(hi:i<l.length)->tD l i l[i]=0):∀ n i,XC l n i=0
 | 0,i=>rfl
 | n + 1,i=>by
  rw [XC];by_cases hi:i<l.length
  ·rw [y5 hi];simp only [h i hi,if_true];exact TT h n (i + 1)
  ·rw [yY (by omega)]
theorem MU {l:List fC} (hl:oks l) {T:List pA} (h:rwS l.length (lA l) T):valid T=0:=by
 have hl5:=hl.2.1;have ia:=mT h;unfold valid;rw [if_neg (by omega)];refine TT (fun i hi=>?_) _ _;have hd:∀ j,(hj:j<T.length)->TypD l j T[j]:=fun j hj=>typ_d hl (by omega) (xO h hj)
 obtain ⟨hg,ab,hu,hk⟩:=hd i hi;unfold tD;rw [if_neg (by rw [hg]; decide)];rw [if_neg]
 ·rw [if_neg]
  ·rw [if_neg];rintro ⟨h8,hn⟩;have sc:=hk h8;have huk:=hu T[i].key (by simp [pA.usesL,h8]);have lg:T[i].key.toNat<T.length:=by omega
   apply hn;unfold MJ;rw [y5 lg];simp only;rw [KY (xO h lg),FN l (by omega)];rw [show ((T[i].key.toNat:Nat):Int)=T[i].key from by omega];simp only [UV,decide_eq_true_eq] at sc;rw [if_neg (by omega),if_neg (by omega),if_pos (by omega)];exact sc
  ·intro hany;obtain ⟨u,la,ho⟩:=List.any_eq_true.1 hany;have:=hu u la;simp only [sB,yT,decide_eq_true_eq] at ho;omega
 ·rintro ⟨hn,la⟩;rw [yp] at la;obtain ⟨b,hb,he⟩:=la;obtain ⟨j,hj,rfl⟩:=yq hb;rw [yL] at hj;rw [List.getElem_take] at he;have hjT:j<T.length:=by omega
  obtain ⟨hgj,hnmj,_,_⟩:=hd j hjT;rw [ab hn] at he;have hbn:T[j].named=true:=by
   cases hc:T[j].named with
   | true=>rfl
   | false =>
    have nd:=H8 ⟨i,by omega⟩;simp only at nd;rw [<- he] at nd;have nb:T[j].name=⟨#[]⟩:=by
     unfold dB at hgj;simp only [pA.named,Bool.or_eq_false_iff,decide_eq_false_iff_not] at hc;simp only [y7,decide_eq_true_eq] at hgj;have hs:=hgj.2.2;unfold pA.left at hs;obtain ⟨⟨c4,c5⟩,c6⟩:=hc;simp only [c4,c5,c6,if_false] at hs;split at hs
     ·simp only [pA.same,tC,y7,decide_eq_true_eq] at hs; exact of_decide_eq_true hs.1.1.1.1.1.1.1.1.2
     ·split at hs
      ·simp only [pA.same,tC,y7,decide_eq_true_eq] at hs; exact of_decide_eq_true hs.1.1.1.1.1.1.1.1.2
      ·split at hs
       ·simp only [pA.same,tC,y7,decide_eq_true_eq] at hs; exact of_decide_eq_true hs.1.1.1.1.1.1.1.1.2
       ·split at hs
        ·simp only [pA.same,tC,y7,decide_eq_true_eq] at hs; exact of_decide_eq_true hs.1.1.1.1.1.1.1.1.2
        ·split at hs
         ·simp only [pA.same,tC,y7,decide_eq_true_eq] at hs; exact of_decide_eq_true hs.1.1.1.1.1.1.1.1.2
         ·simp only [pA.same,tC,y7,decide_eq_true_eq] at hs; exact of_decide_eq_true hs.1.1.1.1.1.1.1.1.2
    rw [nb] at nd;exact absurd nd (by decide)
  have:=tName_inj ⟨j,by omega⟩ ⟨i,by omega⟩ (by simp only; rw [<- hnmj hbn,he]);have:=congrArg Fin.val this;simp only at this;omega
theorem w7 {α:Type} (p:α->Bool):∀ l:List α,(∃ x∈l,p x=true)->0<=FB p l
 | [],h=>by obtain ⟨x,hx,_⟩:=h; cases hx
 | x :: r,h=>by
  have hg:=qF p r;unfold FB;by_cases hp:p x=true
  ·rw [if_pos hp]; exact Int.le_refl 0
  ·rw [if_neg hp];have:0<=FB p r:=w7 p r (by
    obtain ⟨y,hy,hpy⟩:=h;rcases yg.1 hy with rfl | hy
    ·exact absurd hpy hp
    ·exact ⟨y,hy,hpy⟩)
   rw [if_neg (by omega)];omega
theorem idAt_mem (a c:Int) (hc:0<=c):0<=ZF (BH a) (X9 a c):=by
 have ia:=ES a;have hn:((fF a).length:Int)≠0:=by omega
 have h0:=yC c hn;have h1:=yD c (b:=((fF a).length:Int)) (by omega);have fa:(c % (fF a).length).toNat<(fF a).length:=by omega
 refine w7 _ _ ⟨⟨X9 a c,sName (X9 a c)⟩,?_,by simp⟩;unfold BH;refine yp.2 ⟨X9 a c,?_,rfl⟩;unfold X9;rw [y5 fa];exact y8 fa
theorem C9 {l:List fC} (hl:oks l) {T:List pA} (h:rwS l.length (lA l) T) {t c:Int} (ht:0<=t/\t<l.length) (hc:0<=c) (hi:(DJ l t c).2=true):QB T t (DJ l t c).1=true:=by
 have ia:=mT h;have hjT:t.toNat<T.length:=by omega
 have bi:t.toNat<l.length:=by omega
 have rf:=xO h hjT;have tn:((t.toNat:Nat):Int)=t:=by omega
 have zb:=FN l bi;rw [tn] at rf zb;have hx:=jF hl bi;rw [tn] at hx;have xq:=zX hl ht.1 ht.2;have kg:dC l t=(DA l t).kind:=by rw [<- tn]; exact kdAt_nd l bi
 obtain ⟨xk,xa,xb,xc,_⟩:=E5 _ hx;unfold QB;unfold kE;have ho:sB T.length t=false:=by simp [sB]; omega
 rw [ho,y5 hjT];generalize hf:kE T _=f;clear hf;have hk:=KY rf;rw [zb] at hk;unfold DJ at hi ⊢;by_cases kt:dC l t=5\/dC l t=6
 ·rw [if_pos kt] at hi; cases hi
 rw [if_neg kt];have e6:¬ (dC l t=6/\(lE l t false (DA l t).parts).isEmpty=true):=fun e=>kt (.inr e.1)
 rw [if_neg e6] at hk;obtain ⟨bs,ot,hb⟩:=rf;rw [hb] at hk ⊢;simp only [Bool.not_false,Bool.true_and];have pe:inK l t=(kB l t).kind:=by
  unfold inK;by_cases h8:dC l t=8
  ·by_cases hn:NJ l 0<0
   ·have zf:=G1 hl (by omega) xb.1 hn;rw [if_pos ⟨h8,hn⟩];rw [if_pos ⟨h8,zf⟩] at hk;exact hk.symm
   ·have zf:¬ NJ l (DA l t).b<0:=fun q=>hn (G1 hl xb.1 (by omega) q)
    rw [if_neg (fun q=>hn q.2)];rw [if_neg (fun q=>zf q.2),if_pos (by omega)] at hk;exact hk.symm
  ·rw [if_neg (fun q=>h8 q.1)];rw [if_neg (fun q=>h8 q.1)] at hk;by_cases h9:dC l t<=8
   ·rw [if_pos ⟨by omega,h9⟩] at hk; exact hk.symm
   ·rw [if_neg (fun q=>h9 q.2)] at hk;show dC l t=_;have:(kB l t).kind=9:=hk;omega
 rw [pe];have hzV:∀ (k:Int) (b:Bool) (i:Int) (s:ByteArray) (d:Int),(k=1\/b=false)->(k=2\/i=0)->(k=3\/s=⟨#[]⟩)->(k=4\/k=6\/d=0)->sC (Vl.of k b i s d)=true:=fun k b i s d h1 h2 h3 h4=>by
  simp only [sC,Vl.of,Vl.kind,Vl.b,Vl.i,Vl.s,Vl.id,Vl.keys,Vl.items,Vl.rest,List.isEmpty_nil,Bool.or_true,Bool.and_true,y7,yT,decide_eq_true_eq,Bool.not_eq_true',or_assoc];exact ⟨h1.imp (fun h=>decide_eq_true h) id,h2.imp (fun h=>decide_eq_true h) (fun h=>decide_eq_true h),h3.imp (fun h=>decide_eq_true h) (fun h=>decide_eq_true h),h4.imp (fun h=>decide_eq_true h) (Or.imp (fun h=>decide_eq_true h) (fun h=>decide_eq_true h))⟩
 by_cases k1:dC l t=1
 ·have hz:(kB l t).kind=1:=by simp [kB,<- kg,k1,pA.of]
  rw [hz];simp [Vl.of,Vl.kind,jE,sC,Vl.b,Vl.i,Vl.s,Vl.id,Vl.keys,Vl.items,Vl.rest,k1]
 by_cases k2:dC l t=2
 ·have hz:(kB l t).kind=2:=by simp [kB,<- kg,k2,pA.of]
  have ax:(kB l t).low=(DA l t).low:=by simp [kB,<- kg,k2,pA.of]
  have gp:(kB l t).high=(DA l t).high:=by simp [kB,<- kg,k2,pA.of]
  rw [hz,ax,gp];have h1:=yC c (show (DA l t).b % 6 + 1≠0 by have:=xb.1; omega);have h2:=yD c (show 0<(DA l t).b % 6 + 1 by have:=xb.1; omega);have h3:(DA l t).low<=(DA l t).low + c % ((DA l t).b % 6 + 1):=by omega
  have h4:(DA l t).low + c % ((DA l t).b % 6 + 1)<=(DA l t).high:=by simp only [fC.high]; omega
  simp [Vl.of,Vl.kind,jE,sC,Vl.b,Vl.i,Vl.s,Vl.id,Vl.keys,Vl.items,Vl.rest,k2,h3,h4,h1]
 by_cases k3:dC l t=3
 ·have hz:(kB l t).kind=3:=by simp [kB,<- kg,k3,pA.of]
  have jf:(kB l t).max=(DA l t).a % 4:=by simp [kB,<- kg,k3,pA.of]
  have h0:0<=(DA l t).a % 4:=by omega
  have hs0:(⟨#[]⟩:ByteArray).size=0:=rfl;have gr:(⟨#[97]⟩:ByteArray).size=1:=rfl;rw [hz,jf];by_cases hq:0<(DA l t).a % 4/\c % 2=1
  ·have h1:1<=(DA l t).a % 4:=by omega
   simp [Vl.of,Vl.kind,jE,sC,Vl.b,Vl.i,Vl.s,Vl.id,Vl.keys,Vl.items,Vl.rest,k3,hq,gr,h1]
  ·simp [Vl.of,Vl.kind,jE,sC,Vl.b,Vl.i,Vl.s,Vl.id,Vl.keys,Vl.items,Vl.rest,k3,hq,hs0,h0]
 by_cases k4:dC l t=4
 ·have hz:(kB l t).kind=4:=by simp [kB,<- kg,k4,pA.of]
  have ad:(kB l t).syms=BH (DA l t).a:=by simp [kB,<- kg,k4,pA.of]
  have hm:=idAt_mem (DA l t).a c hc;rw [hz,ad];simp [Vl.of,Vl.kind,jE,sC,Vl.b,Vl.i,Vl.s,Vl.id,Vl.keys,Vl.items,Vl.rest,k4,hm]
 have hz:7<=(kB l t).kind/\(kB l t).kind<=9:=by
  rw [zb,if_neg e6];split
  ·omega
  ·split <;> omega
 have jf:(kB l t).kind<=8->0<=(kB l t).max:=fun h8=>by
  by_cases k7:dC l t=7
  ·have:(kB l t).max=(DA l t).a % 4:=by simp [kB,<- kg,k7,pA.of]
   omega
  by_cases k8:dC l t=8
  ·by_cases hc:NJ l (DA l t).b<0
   ·have:(kB l t).max=(DA l t).a % 4:=by simp [kB,<- kg,k8,hc,pA.of]
    omega
   ·have:(kB l t).max=(DA l t).a % 4:=by simp [kB,<- kg,k8,hc,pA.of]
    omega
  have k9:dC l t=9:=by omega
  have:(kB l t).kind=9:=by simp [kB,<- kg,k9,pA.of]
  omega
 generalize (kB l t).kind=kk at *
 have q1:¬ kk=1:=by omega
 have q2:¬ kk=2:=by omega
 have q3:¬ kk=3:=by omega
 have q4:¬ kk=4:=by omega
 have q5:¬ kk=5:=by omega
 have q6:¬ kk=6:=by omega
 have ge:jE f { kind:=kk,name:=(kB l t).name,low:=(kB l t).low,high:=(kB l t).high,max:=(kB l t).max,sn:=(kB l t).sn,syms:=(kB l t).syms,mn:=bs.isEmpty,mems:=bs,key:=(kB l t).key,elem:=(kB l t).elem,opn:=(kB l t).opn } (Vl.of kk false 0 ⟨#[]⟩ 0)=true:=by
  simp only [jE,q1,q2,q3,q4,q5,q6,if_false,Vl.of,Vl.items,Vl.keys];by_cases k7:kk=7
  ·simp [k7,jf (by omega)]
  by_cases k8:kk=8
  ·simp [k8,jf (by omega),BG]
  simp [k7,k8]
 simp only [k1,k2,k3,k4,false_and,if_false,decide_false];rw [hzV kk false 0 ⟨#[]⟩ 0 (.inr rfl) (.inr rfl) (.inr rfl) (.inr (.inr rfl)),ge];simp [Vl.of,Vl.kind]
theorem LW {S:List pA} (h:∀ t∈S,PK S t=none):∀ n i,sE S n i=none
 | 0,i=>rfl
 | n + 1,i=>by
  rw [sE];cases hi:S[i]? with
  | none=>rfl
  | some t =>
   simp only [h t (yh hi)];exact LW h n (i + 1)
theorem p5 {l:List fC} (hl:oks l) {T:List pA} (h:rwS l.length (lA l) T):bF T=0:=by
 unfold bF;rw [if_pos (MU hl h),LW fun t ht=>?_];obtain ⟨i,hi,rfl⟩:=yq ht;have wd:i<l.length:=by rw [<- mT h]; exact hi
 unfold PK;rw [Option.map_eq_none_iff,List.find?_eq_none];intro m hm;obtain ⟨bs,ot,hb⟩:=xO h hi;have tc:m∈bs:=by rw [hb] at hm; exact hm
 obtain ⟨j,hj,rfl⟩:=yq tc;have oy:j<(kB l (i:Int)).mems.length:=by rw [ot.1]; exact hj
 have hr:=ot.2 j _ _ (y5 oy) (y5 hj);unfold qS;rcases hr.2.2.2 with h4 | ⟨_,_,h5,_⟩
 ·rw [h4];have hmz:∃ rc id p,p.ok/\TH l (i:Int) id p=true/\(kB l (i:Int)).mems[j]=GK l (i:Int) rc id p:=by
   have la:=y8 oy;generalize (kB l (i:Int)).mems[j]=m at *
   have hx:=jF hl wd;unfold kB at la;generalize DA l (i:Int)=x at *
   have hp:∀ rc,m∈lE l (i:Int) rc x.parts->∃ rc id p,p.ok/\TH l (i:Int) id p=true/\m=GK l (i:Int) rc id p:=fun rc la=>by
    obtain ⟨id,p,_,_,h1,h2,h3⟩:=qK 12 m la;exact ⟨rc,id,p,hx.2.2.2.2.2 p h1,h2,h3⟩
   simp only at la;split at la <;> first | (simp [pA.of] at la; done) | exact hp _ la | skip
   all_goals split at la <;> first | (simp [pA.of] at la; done) | exact hp _ la
  obtain ⟨rc,id,p,jo,hp,he⟩:=hmz;rw [he];simp only [TH,decide_eq_true_eq] at hp;have zy:=eQ hl (i:Int) p.ty (by omega);cases hh:(GK l (i:Int) rc id p).has with
  | false=>simp
  | true =>
   simp only [GK,y7,decide_eq_true_eq] at hh;have:=C9 hl h ⟨hp.2,zy.2⟩ (c:=p.flag / 4) (by have:=jo.2.2.1; omega) hh.2;simp [GK,hh.1,this]
 ·simp [h5]
theorem a8 {w:RG}:∀ (l:List zB) (c:Int),(∀ m∈l,1<=w m.ty.toNat)->1<=c->1<=jT w l c
 | [],c,_,hc=>hc
 | x :: r,c,hm,hc=>by
  rw [jT];have h1:=hm x yl;have h2:1 * 1<=c * w x.ty.toNat:=Int.mul_le_mul hc h1 (by decide) (by omega);exact a8 r _ (fun m h=>hm m (yo _ h)) (by omega)
theorem sumF_ge {w:RG}:∀ (l:List zB) (c:Int),(∀ m∈l,0<=w m.ty.toNat)->c<=lW w l c/\((∃ m∈l,1<=w m.ty.toNat)->c + 1<=lW w l c)
 | [],c,_=>⟨Int.le_refl _,fun h=>by obtain ⟨m,hm,_⟩:=h; cases hm⟩
 | x :: r,c,hm=>by
  rw [lW];have h0:=hm x yl;obtain ⟨h1,h2⟩:=sumF_ge r (c + w x.ty.toNat) fun m h=>hm m (yo _ h)
  refine ⟨by omega,fun h=>?_⟩;obtain ⟨m,la,hp⟩:=h;rcases yg.1 la with rfl | la
  ·omega
  ·have:=h2 ⟨m,la,hp⟩;omega
theorem N0 {N:Nat} {w:RG} (hw:QQ N w) {x:pA} (hx:OF N x) (hg:dB x=true) (h5:x.kind≠5) (h6:x.kind≠6):1<=HF x w:=by
 unfold HF;by_cases h2:x.kind=2
 ·rw [if_pos h2]; split <;> omega
 rw [if_neg h2];by_cases h3:x.kind=3
 ·rw [if_pos h3]; split <;> omega
 rw [if_neg h3];by_cases h4:x.kind=4
 ·rw [if_pos h4];unfold dB at hg;rw [y7,y7] at hg;have ho:=hg.2.1;unfold LG at ho;rw [if_neg h2,if_neg h3,if_pos h4,y7] at ho;have hs:=ho.2;unfold gM at hs;rw [y7] at hs;have:=of_decide_eq_true hs.1;omega
 rw [if_neg h4,if_neg h5,if_neg h6];by_cases h7:x.kind=7
 ·rw [if_pos h7]; split <;> omega
 rw [if_neg h7];by_cases h8:x.kind=8
 ·rw [if_pos h8]; split <;> omega
 rw [if_neg h8];by_cases h9:x.kind=9
 ·rw [if_pos h9];have:=hx.elem (by omega);have:=hw x.elem.toNat (by omega);omega
 rw [if_neg h9];omega
theorem typZ_mn (l:List fC) (i:Int):(kB l i).mn=(kB l i).mems.isEmpty:=by
 unfold kB;generalize DA l i=x;simp only;split
 all_goals first | rfl | skip
 ·split
  ·rfl
  ·rename_i h; simp only [pA.of]; simpa using h
 ·split <;> rfl
theorem XK (l:List fC):rwS l.length (lA l) (lA l):=by
 refine ⟨rfl,fun i a b ha hb=>?_⟩;rw [ha] at hb;injection hb with hb;subst hb;have hm:a.mn=a.mems.isEmpty:=by
  obtain ⟨hi,rfl⟩:=y9.1 ha;simp only [lA,List.getElem_map,List.getElem_range];exact typZ_mn l _
 exact ⟨a.mems,U8 _ _,by rw [<- hm]⟩
theorem frz_typsI {l:List fC} {L:List (List AV)} {s:aA} (h:LI (lA l) L s) {t N c:Nat} (hm:s.mem t N=some (kA L)):AV.frz0 s (.ref t N 10 0 L.length c)=.sl false ((lA l).map eA):=by
 have hL:(L.map fun c=>c.map (AV.frz1 s))=(lA l).map eA:=by
  refine List.ext_getElem (by simp [h.1]) fun i h1 h2=>?_
  have hi:i<(lA l).length:=by simpa using h2
  have hiL:i<L.length:=by simpa using h1
  obtain ⟨m,g1,g2⟩:=h.2 i _ _ (y5 hi) (y5 hiL);simp only [List.getElem_map];rw [g1];have bw:(lA l)[i].mn=(lA l)[i].mems.isEmpty:=by
   simp only [lA,List.getElem_map,List.getElem_range];exact typZ_mn l _
  have hc:AV.frz1 s m=.sl (lA l)[i].mn ((lA l)[i].mems.map nA):=by
   rw [bw];rcases g2 with ⟨e,rfl⟩ | ⟨M,ma,_,rfl,hM⟩
   ·rw [e]; rfl
   ·have gj:(lA l)[i].mems.isEmpty=false:=by simpa using ma
    have:=mH (sz:=13) (cW (lA l)[i].mems) (T2 (lA l)[i].mems);simp only [yu] at this;simp only [AV.frz1,hM,J,this,gj]
  rw [<- typL_C];simp only [nF,yf,ym,hc];rfl
 rw [frz_row (h.toR 0).els hm (by rw [hL]; simp [eA,AV.free0]),hL]
theorem of07_ev {dn:Bool} {l:List fC} (hx:∀ x∈l,x.ok):(oks l/\gA 50 [.agg (uG dn l)] (.tup [.agg [.sl false ((lA l).map eA)],.bool true]))\/(¬ oks l/\gA 50 [.agg (uG dn l)] (.tup [.agg [.sl true []],.bool false])):=by
 have se:lF.res=[.cell 2 true 1,.tmp 3]:=rfl;by_cases hl:1<=l.length/\l.length<=5
 ·left;refine ⟨⟨hl.1,hl.2,hx⟩,?_⟩;refine rA (c:=lF) rfl rfl ?_;refine of_run (dn:=dn) ⟨hl.1,hl.2,hx⟩ _ rfl (fun t n row h=>by cases h) (fun t n row _ h=>by cases h) ?_ ?_ ?_ _ (fun s' h=>?_)
  ·intro t;rcases t with _ | t
   ·exact UX (fun c hc=>by simp only [uG,yO] at hc; subst hc; exact lQ rfl)
   ·exact fun _ _ _=>rfl
  ·exact fun t _ _ _=>rfl
  ·exact fun t=>gT _
  ·obtain ⟨hc,e2,e3,lt,N,L,h2,hN,fa,ol,hL,hT⟩:=h;have g2:=frz_typsI hT (c:=l.length) ol;rw [hL] at g2;have po:(s'.env 2).v=.ptr 2 1 0:=e2;have pp:s'.mem 2 1=some [⟨.ref 168 N 10 0 l.length l.length,.no⟩]:=h2;have f1:AV.frz s' (.agg [.ref 168 N 10 0 l.length l.length])=.agg [.sl false ((lA l).map eA)]:=by simp only [AV.frz,yf,ym,g2]
   have f2:AV.frz s' (.bool true)=.bool true:=rfl;simp [fin,se,zT,po,e3,pp,RB,f1,f2,tX,AV.free,AV.free0,jW,-AV.frz,-AV.frz0]
 ·right;refine ⟨fun h=>hl ⟨h.1,h.2.1⟩,?_⟩;refine rA (c:=lF) rfl rfl ?_;refine of_bad hl _ rfl (fun t n row h=>by cases h) _ (fun s' hc e2 e3 h2=>?_);have po:(s'.env 2).v=.ptr 2 1 0:=e2;have pp:s'.mem 2 1=some [⟨.sl true [],.no⟩]:=h2;simp [fin,se,zT,po,e3,pp,RB,tX,AV.free,AV.free0,jW]
theorem eZ {l:List fC} (hl:oks l) {i:Nat} (hi:i<l.length) {m:zB} (la:m∈(kB l (i:Int)).mems):∃ rc id p,p.ok/\TH l (i:Int) id p=true/\m=GK l (i:Int) rc id p:=by
 have hx:=jF hl hi;unfold kB at la;generalize DA l (i:Int)=x at *
 have hp:∀ rc,m∈lE l (i:Int) rc x.parts->∃ rc id p,p.ok/\TH l (i:Int) id p=true/\m=GK l (i:Int) rc id p:=fun rc la=>by
  obtain ⟨id,p,_,_,h1,h2,h3⟩:=qK 12 m la;exact ⟨rc,id,p,hx.2.2.2.2.2 p h1,h2,h3⟩
 simp only at la;split at la <;> first | (simp [pA.of] at la; done) | exact hp _ la | skip
 all_goals split at la <;> first | (simp [pA.of] at la; done) | exact hp _ la
theorem dflt_kind {l:List fC} (hl:oks l) {T:List pA} (h:rwS l.length (lA l) T):∀ j,(hj:j<T.length)->∀ m∈T[j].mems,m.has=true->∀ y,T[m.ty.toNat]?=some y->y.kind≠5/\y.kind≠6:=fun j hj m hm hh y hy=>by
 have bi:j<l.length:=by rw [<- mT h]; exact hj
 obtain ⟨bs,ot,hb⟩:=xO h hj;have tc:m∈bs:=by rw [hb] at hm; exact hm
 obtain ⟨i,hi,rfl⟩:=yq tc;have hia:i<(kB l (j:Int)).mems.length:=by rw [ot.1]; exact hi
 have hr:=ot.2 i _ _ (y5 hia) (y5 hi);rcases hr.2.2.2 with h4 | ⟨_,_,h5,_⟩
 ·obtain ⟨rc,id,p,jo,hp,he⟩:=eZ hl bi (y8 hia);rw [h4,he] at hh hy;simp only [TH,decide_eq_true_eq] at hp;have zy:=eQ hl (j:Int) p.ty (by omega);simp only [GK,y7] at hh hy;have h2:=hh.2;unfold DJ at h2;split at h2
  ·cases h2
  ·rename_i hk;obtain ⟨ht,ub⟩:=y9.1 hy;have htl:(PG l (j:Int) p.ty).toNat<l.length:=by omega
   have zb:=FN l htl;have e1:(((PG l (j:Int) p.ty).toNat:Nat):Int)=PG l (j:Int) p.ty:=by omega
   have hrt:=KY (xO h ht);rw [e1] at zb hrt;rw [<- ub,hrt,zb];rw [if_neg (fun q=>hk (.inr q.1))];split
   ·decide
   ·split
    ·constructor <;> omega
    ·decide
 ·rw [h5] at hh; cases hh
theorem hol_ge {l:List fC}:∀ n k,0<=fE l n k->7<=dC l (fE l n k)
 | 0,k,h=>by simp [fE] at h
 | n + 1,k,h=>by
  rw [fE] at h ⊢;by_cases c:7<=dC l k
  ·rw [if_pos c]; exact c
  ·rw [if_neg c] at h ⊢; exact hol_ge n (k + 1) h
theorem tgt_early {l:List fC} (i code:Int) (h:0<=PG l i code):7<=dC l (PG l i code)\/PG l i code<i:=by
 unfold PG at h ⊢;split
 ·rename_i c; exact c
 ·rename_i c;rw [if_neg c] at h;split
  ·rename_i c2; exact .inr (yD _ c2)
  ·rename_i c2; rw [if_neg c2] at h; exact .inl (hol_ge _ _ h)
theorem typZ_ne {l:List fC} {i:Int} (h:(kB l i).kind=6):(kB l i).mems≠[]:=by
 unfold kB at h ⊢;generalize DA l i=x at *
 simp only at h ⊢;split at h
 all_goals first | (simp [pA.of] at h; done) | skip
 ·rename_i hk;split at h
  ·simp [pA.of] at h
  ·rename_i hn; rw [if_neg hn]; simpa using hn
 ·split at h <;> simp [pA.of] at h
theorem draft_pos {l:List fC} (hl:oks l) {w:RG} (hw:OW (lA l).length (FP (lA l)) w) (fw:∀ j,j<(lA l).length->FP (lA l) j w=w j):∀ j,j<(lA l).length->1<=w j:=by
 have ar:=MU hl (XK l);have hW:=dD ar;intro j
 induction j using Nat.strongRecOn with
 | ind j ih =>
  intro hj;have bi:j<l.length:=by simpa [lA] using hj
  have hx:(lA l)[j]=kB l (j:Int):=by simp [lA]
  have hWj:=hW _ (y8 hj);have hG:dB (lA l)[j]=true:=(AK (SI ar j hj)).1;have h:=fw j hj;unfold FP at h;rw [y5 hj] at h;simp only at h;have la:∀ m∈(lA l)[j].mems,1<=w m.ty.toNat:=fun m hm=>by
   rw [hx] at hm;obtain ⟨rc,id,p,jo,hp,rfl⟩:=eZ hl bi hm;simp only [TH,decide_eq_true_eq] at hp;have zy:=eQ hl (j:Int) p.ty (by omega);have hdl:(lA l).length=l.length:=by simp [lA]
   show 1<=w (PG l (j:Int) p.ty).toNat;rcases tgt_early (j:Int) p.ty hp.2 with h7 | fa
   ·have htl:(PG l (j:Int) p.ty).toNat<l.length:=by omega
    have zb:=FN l htl;have e1:(((PG l (j:Int) p.ty).toNat:Nat):Int)=PG l (j:Int) p.ty:=by omega
    have hy:(lA l)[(PG l (j:Int) p.ty).toNat]'(by omega)=kB l (((PG l (j:Int) p.ty).toNat:Nat):Int):=by simp [lA]
    have hk7:7<=(kB l (((PG l (j:Int) p.ty).toNat:Nat):Int)).kind:=by
     rw [zb,e1,if_neg (by omega)];split
     ·omega
     ·split <;> omega
    have hf:=fw (PG l (j:Int) p.ty).toNat (by omega);unfold FP at hf;rw [y5 (by omega)] at hf;simp only at hf;have hc:=N0 hw.rng (hW _ (y8 (show (PG l (j:Int) p.ty).toNat<(lA l).length by omega))) (AK (SI ar _ (by omega))).1 (by rw [hy]; omega) (by rw [hy]; omega);omega
   ·exact ih _ (by omega) (by omega)
  have key:1<=HF (lA l)[j] w:=by
   by_cases h5:(lA l)[j].kind=5
   ·unfold HF;simp only [h5];exact a8 _ _ la (by decide)
   by_cases h6:(lA l)[j].kind=6
   ·unfold HF;simp only [h6];have ma:(lA l)[j].mems≠[]:=by
     rw [hx] at h6 ⊢;exact typZ_ne h6
    obtain ⟨m,hm⟩:=List.exists_mem_of_ne_nil _ ma;have:=(sumF_ge (w:=w) (lA l)[j].mems 0 (fun m hm=>by have:=la m hm; omega)).2 ⟨m,hm,la m hm⟩;simpa using this
   exact N0 hw.rng hWj hG h5 h6
  omega
theorem C5 {w:RG}:∀ {n:Nat},(∀ j,j<n->1<=w j)->CL w n=true
 | 0,_=>rfl
 | n + 1,h=>by
  unfold CL;rw [C5 (n:=n) (fun j hj=>h j (by omega)),decide_eq_true (by have:=h n (by omega); omega)];rfl
theorem nV {l:List fC} (hl:oks l):K3 ⟨false,lA l⟩ 0:=by
 obtain ⟨hf,h6⟩:=rwS_ok hl (XK l);have kh:=p5 hl (XK l);have hv0:=MU hl (XK l);obtain ⟨w,hw,fw⟩:=lfp (I5 (dD hv0));have h1:=counts_ev ⟨false,lA l⟩ hv0 hw fw;have hp:=draft_pos hl hw fw;have hs:l5 (lA l) w=0:=by
  unfold l5;rw [if_pos kh,C5 hp];rfl
 have e1:=sound_ev ⟨false,lA l⟩ hf h6 (w:=w) (fun _=>⟨hw.rng,h1⟩);rw [show (⟨false,lA l⟩:FI).types=lA l from rfl,hs] at e1;exact e1
end Go.Proofs.YtbhbeakhognieaaGreat
