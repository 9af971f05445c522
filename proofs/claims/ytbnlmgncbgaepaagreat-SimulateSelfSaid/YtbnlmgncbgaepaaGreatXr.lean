/- A part of the proof. -/
import Derived.Test.YtbnlmgncbgaepaaGreatXj
import Derived.Test.YtbnlmgncbgaepaaGreatXz
import Derived.Test.YtbnlmgncbgaepaaGreatXl
set_option linter.all false
set_option maxRecDepth 100000
set_option maxHeartbeats 8000000
open Option renaming bind_some → V
open List renaming getElem?_eq_getElem → y4, all_eq_true → y5, getElem_mem → y6, getElem?_eq_some_iff → y9, mem_cons → yf, map_cons → yg, mem_of_getElem? → yj, mem_cons_self → yk, map_nil → yn, length_map → yo, mem_cons_of_mem → yp, mem_append → yt, mem_map → yy, getElem_of_mem → yB, length_take → yC, eq_nil_of_length_eq_zero → yM, map_append → yS, getElem?_eq_none → yW
open Bool renaming and_eq_true → y7, false_eq_true → yr
open Int renaming emod_nonneg → yI, emod_lt_of_pos → yL
namespace Go.Proofs.YtbnlmgncbgaepaaGreat
open Go
theorem NL {l:List dC} {i:Int} {rc:Bool} {ps:List WP}:∀ (n:Nat) (m:BB),m∈OJ l i rc ps n->∃ id p,1<=id/\id<=(n:Int)/\p∈ps/\RJ l i id p=true/\m=JL l i rc id p
 | 0,m,h=>by simp [OJ] at h
 | n + 1,m,h=>by
  rw [OJ] at h;rcases yt.1 h with h | h
  ·obtain ⟨id,p,h1,h2,h3⟩:=NL n m h;exact ⟨id,p,h1,by omega,h3⟩
  ·unfold uP at h;split at h
   ·rename_i p hp;simp only [List.mem_singleton] at h;exact ⟨((n + 1:Nat):Int),p,by omega,by omega,List.mem_of_find?_eq_some hp,List.find?_some hp,h⟩
   ·cases h
theorem init_ok {l:List dC} (hl:oks l) (t code:Int) (hc:0<=code):(LJ l t code).1.ok/\(LJ l t code).1.i64:=by
 have hx:u8 (HA l t).a/\u8 (HA l t).b:=by
  unfold HA;cases h:l[t.toNat]? with
  | none=>exact ⟨⟨by decide,by decide⟩,⟨by decide,by decide⟩⟩
  | some x =>
   have:=hl.2.2 x (yj h);exact ⟨this.2.1,this.2.2.1⟩
 obtain ⟨⟨a0,a1⟩,⟨b0,b1⟩⟩:=hx;unfold LJ;split
 ·exact ⟨by rw [Vl.ok_def]; simp [Vl.of,Vl.keys,Vl.items,Vl.rest,Vl.s]; decide,by rw [Vl.i64_def]; simp [Vl.of,Vl.keys,Vl.items,Vl.i,IR]⟩
 ·refine ⟨?_,?_⟩
  ·rw [Vl.ok_def];refine ⟨by simp [Vl.of,Vl.keys],by simp [Vl.of,Vl.items],by simp [Vl.of,Vl.rest],?_,by simp [Vl.of,Vl.keys],by simp [Vl.of,Vl.items]⟩;simp only [Vl.of,Vl.s];split <;> exact (by decide)
  ·rw [Vl.i64_def];refine ⟨?_,by simp [Vl.of,Vl.keys],by simp [Vl.of,Vl.items]⟩;simp only [Vl.of,Vl.i,IR];split
   ·have hm:0<(HA l t).b % 6 + 1:=by omega
    have:=yI code (show (HA l t).b % 6 + 1≠0 by omega);have:=yL code hm;simp only [dC.low];omega
   ·omega
theorem memZ_ok {l:List dC} (hl:oks l) {i:Int} {rc:Bool} {id:Int} {p:WP} (hp:p.ok):(JL l i rc id p).ok/\(JL l i rc id p).dflt.i64:=by
 have hf:0<=p.flag / 4:=by have:=hp.2.2.1; omega
 obtain ⟨h1,h2⟩:=init_ok hl (GI l i p.ty) (p.flag / 4) hf;have hz:Vl.zero.ok/\Vl.zero.i64:=⟨by rw [Vl.ok_def]; simp [Vl.zero,Vl.keys,Vl.items,Vl.rest,Vl.s]; decide,by rw [Vl.i64_def]; simp [Vl.zero,Vl.keys,Vl.items,Vl.i,IR]⟩;have hn:(JL l i rc id p).name.size<=9223372036854775807:=by
  have:=TV (97 + id);have h1:(⟨#[109]⟩:ByteArray).size=1:=rfl;simp only [JL,EN,ByteArray.size_append];omega
 refine ⟨⟨?_,hn⟩,?_⟩ <;> simp only [JL] <;> split <;> first | exact h1 | exact h2 | exact hz.1 | exact hz.2
theorem typZ_ok {l:List dC} (hl:oks l) (i:Nat) (hi:i<l.length):(nB l (i:Int)).fine/\(nB l (i:Int)).d64:=by
 have hx:=PF hl hi;have hm:∀ rc,∀ m∈BE l (i:Int) rc (HA l (i:Int)).parts,m.ok/\m.dflt.i64:=fun rc m h=>by
  obtain ⟨id,p,_,_,h1,_,rfl⟩:=NL 12 m h;exact memZ_ok hl (hx.2.2.2.2.2 p h1)
 have ja:∀ rc,(BE l (i:Int) rc (HA l (i:Int)).parts).length<=12:=fun rc=>BM l _ rc _ 12
 have hs:(iI (HA l (i:Int)).a).length<=6:=by
  have:=OR (HA l (i:Int)).a;simp only [iI,yo];omega
 have base:∀ k nm,(fA.of k nm).fine/\(fA.of k nm).d64:=fun k nm=>⟨⟨⟨by simp [fA.of],by simp [fA.of],by simp [fA.of]⟩,by simp [fA.of],by simp [fA.of]⟩,by simp [fA.d64,fA.of]⟩
 have sa:∀ t:fA,t.syms.length<=6->t.mems.length<=12->(∀ m∈t.mems,m.ok/\m.dflt.i64)->t.fine/\t.d64:=fun t h1 h2 h3=>⟨⟨⟨by omega,by omega,fun m hm=>(h3 m hm).1⟩,by omega,by omega⟩,fun m hm=>(h3 m hm).2⟩
 unfold nB;simp only;split
 ·exact base _ _
 ·exact sa _ (by simp [fA.of]) (by simp [fA.of]) (by simp [fA.of])
 ·exact sa _ (by simp [fA.of]) (by simp [fA.of]) (by simp [fA.of])
 ·exact sa _ hs (by simp [fA.of]) (by simp [fA.of])
 ·exact sa _ (by simp [fA.of]) (ja _) (hm _)
 ·split
  ·exact base _ _
  ·exact sa _ (by simp [fA.of]) (ja _) (hm _)
 ·exact sa _ (by simp [fA.of]) (by simp [fA.of]) (by simp [fA.of])
 ·split <;> exact sa _ (by simp [fA.of]) (by simp [fA.of]) (by simp [fA.of])
 ·exact sa _ (by simp [fA.of]) (by simp [fA.of]) (by simp [fA.of])
theorem rwT_ok {n:Nat} {a b:fA} (h:rwT n a b) (ha:a.fine/\a.d64):b.fine/\b.d64:=by
 obtain ⟨bs,⟨hl,hm⟩,rfl⟩:=h;obtain ⟨⟨⟨h1,h2,h3⟩,h4,h5⟩,h6⟩:=ha;have hz:Vl.zero.ok/\Vl.zero.i64:=⟨by rw [Vl.ok_def]; simp [Vl.zero,Vl.keys,Vl.items,Vl.rest,Vl.s]; decide,by rw [Vl.i64_def]; simp [Vl.zero,Vl.keys,Vl.items,Vl.i,IR]⟩;have hb:∀ m∈bs,m.ok/\m.dflt.i64:=fun m ma=>by
  obtain ⟨i,hi,rfl⟩:=yB ma;have hia:i<a.mems.length:=by omega
  obtain ⟨g1,g2,g3,g4⟩:=hm i _ _ (y4 hia) (y4 hi);have hao:=h3 _ (y6 hia);have had:=h6 _ (y6 hia);rcases g4 with g4 | ⟨_,_,_,g4⟩
  ·rw [g4]; exact ⟨hao,had⟩
  ·exact ⟨⟨by rw [g4]; exact hz.1,by rw [g2]; exact hao.2⟩,by rw [g4]; exact hz.2⟩
 exact ⟨⟨⟨h1,by dsimp only; omega,fun m ma=>(hb m ma).1⟩,h4,by dsimp only; omega⟩,fun m ma=>(hb m ma).2⟩
theorem rwS_ok {l:List dC} (hl:oks l) {T:List fA} (h:rwS l.length (uA l) T):(⟨false,T⟩:SG).fine/\(⟨false,T⟩:SG).d64:=by
 obtain ⟨ja,h⟩:=h;have hl5:=hl.2.1;have hdl:(uA l).length=l.length:=by simp [uA]
 have hT:∀ t∈T,t.fine/\t.d64:=fun t ht=>by
  obtain ⟨i,hi,rfl⟩:=yB ht;have fc:i<l.length:=by omega
  have:=h i (nB l (i:Int)) _ (by simp [uA,fc]) (y4 hi);exact rwT_ok this (typZ_ok hl i fc)
 exact ⟨⟨by dsimp only; omega,fun t ht=>(hT t ht).1⟩,fun t ht=>(hT t ht).2⟩
theorem mName_ok:∀ d:Fin 13,QF (EN (d.val:Int))=true:=by decide +kernel
theorem mName_inj:∀ d e:Fin 13,EN (d.val:Int)=EN (e.val:Int)->d=e:=by decide +kernel
theorem B5:∀ d:Fin 5,QF (XJ (d.val:Int))=true:=by decide +kernel
theorem tName_inj:∀ d e:Fin 5,XJ (d.val:Int)=XJ (e.val:Int)->d=e:=by decide +kernel
theorem symsZ_ok:∀ a:Fin 256,aN (iI (a.val:Int))=true:=by decide +kernel
theorem mName_ok' {d:Int} (h:0<=d/\d<=12):QF (EN d)=true:=by
 have:=mName_ok ⟨d.toNat,by omega⟩
 rwa [show ((d.toNat:Nat):Int)=d from by omega] at this
theorem j7 {d e:Int} (h:0<=d/\d<=12) (h':0<=e/\e<=12) (he:EN d=EN e):d=e:=by
 have:=mName_inj ⟨d.toNat,by omega⟩ ⟨e.toNat,by omega⟩;simp only [show ((d.toNat:Nat):Int)=d from by omega,show ((e.toNat:Nat):Int)=e from by omega] at this;have:=congrArg Fin.val (this he);simp only at this;omega
theorem F3:∀ (L:List Int) (b:Int) (seen:List ByteArray),0<=b->(∀ d∈L,b<d/\d<=12)->L.Pairwise (·<·)->(∀ s∈seen,∃ j,0<=j/\j<=b/\s=EN j)->TC b seen (L.map fun d=>(d,EN d))=true
 | [],_,_,_,_,_,_=>rfl
 | d :: r,b,seen,hb,hd,hp,hs=>by
  have h1:=hd d yk;rw [List.pairwise_cons] at hp;simp only [yg,TC,y7,Bool.not_eq_true'];refine ⟨⟨⟨?_,?_⟩,mName_ok' (by omega)⟩,F3 r d (seen++[EN d]) (by omega) (fun e he=>⟨hp.1 e he,(hd e (yp _ he)).2⟩) hp.2 fun s ji=>?_⟩
  ·simp only [GQ,y7,decide_eq_true_eq];omega
  ·refine TR fun zb=>?_
   obtain ⟨j,j0,j1,hj⟩:=hs _ zb;have:=j7 (by omega) (by omega) hj;omega
  ·rcases yt.1 ji with ji | ji
   ·obtain ⟨j,j0,j1,hj⟩:=hs s ji;exact ⟨j,j0,by omega,hj⟩
   ·rw [List.mem_singleton] at ji;exact ⟨d,by omega,by omega,ji⟩
theorem CW (l:List dC) (i:Int) (rc:Bool) (ps:List WP):∀ n:Nat,∃ L:List Int,(OJ l i rc ps n).map zF=L.map (fun d=>(d,EN d))/\L.Pairwise (·<·)/\∀ d∈L,1<=d/\d<=(n:Int)
 | 0=>⟨[],rfl,List.Pairwise.nil,fun d h=>by cases h⟩
 | n + 1=>by
  obtain ⟨L,h1,h2,h3⟩:=CW l i rc ps n;rw [OJ,yS,h1];unfold uP;split
  ·refine ⟨L++[((n + 1:Nat):Int)],by simp [zF,JL],?_,fun d hd=>?_⟩
   ·rw [List.pairwise_append];refine ⟨h2,List.pairwise_singleton _ _,fun a ha b hb=>?_⟩;rw [List.mem_singleton] at hb;have:=h3 a ha;omega
   ·rcases yt.1 hd with hd | hd
    ·have:=h3 d hd; omega
    ·rw [List.mem_singleton] at hd; omega
  ·exact ⟨L,by simp,h2,fun d hd=>by have:=h3 d hd; omega⟩
theorem rwL_ents {n:Nat} {xs bs:List BB} (h:rwL n xs bs):bs.map zF=xs.map zF:=by
 refine List.ext_getElem (by simp [h.1]) fun i h1 h2=>?_
 simp only [yo] at h1 h2;have:=h.2 i xs[i] bs[i] (y4 h2) (y4 h1);simp only [List.getElem_map,zF,this.1,this.2.1]
theorem init_no {l:List dC} {t c:Int} (h:(LJ l t c).2=false):(LJ l t c).1=Vl.zero:=by
 unfold LJ at h ⊢;split at h
 ·rename_i hc;rw [if_pos hc];rfl
 ·cases h
theorem memZ_good (l:List dC) (i:Int) (rc:Bool) (id:Int) (p:WP):WB rc (JL l i rc id p)=true:=by
 by_cases h2:2<=p.flag % 4
 ·have h1:¬ p.flag % 4=1:=by omega
  cases rc with
  | false=>simp [WB,JL,Vl.same_refl]
  | true =>
   cases h3:(LJ l (GI l i p.ty) (p.flag / 4)).2 with
   | false=>simp [WB,JL,h1,h2,h3,init_no h3,Vl.same_refl]
   | true=>simp [WB,JL,h1,h2,h3]
 ·cases rc <;> simp [WB,JL,h2,Vl.same_refl]
theorem rwM_good {n:Nat} {rc:Bool} {a b:BB} (h:rwM n a b) (ha:WB rc a=true):WB rc b=true:=by
 obtain ⟨h1,h2,h3,h4⟩:=h;rcases h4 with rfl | ⟨_,_,h5,h6⟩
 ·exact ha
 ·simp only [WB,h3,h5,h6,Vl.same_refl] at ha ⊢;cases rc <;> cases hc:a.crit <;> simp [hc] at ha ⊢
theorem ZY {l:List dC} {i:Int} {rc:Bool} {ps:List WP} {n:Nat} {bs:List BB} (h:rwL n (BE l i rc ps) bs) (na:rc=true\/bs≠[]):dH rc bs=true:=by
 obtain ⟨L,h1,h2,h3⟩:=CW l i rc ps 12;have ja:bs.length<=12:=by rw [<- h.1]; exact BM l i rc ps 12
 have hents:TC 0 [] (bs.map zF)=true:=by
  rw [rwL_ents h,show (BE l i rc ps).map zF=_ from h1];exact F3 L 0 [] (by omega) (fun d hd=>by have:=h3 d hd; omega) h2 (fun s hs=>by cases hs)
 have sa:bs.all (WB rc)=true:=y5.2 fun b hb=>by
  obtain ⟨j,hj,rfl⟩:=yB hb;have oy:j<(BE l i rc ps).length:=by rw [h.1]; exact hj
  have hm:=h.2 j _ _ (y4 oy) (y4 hj);obtain ⟨id,p,_,_,_,_,he⟩:=NL 12 _ (y6 oy);refine rwM_good hm ?_;rw [he];exact memZ_good l i rc id p
 have fb:rc=true\/0<bs.length:=na.imp id fun h=>List.length_pos_iff.2 h
 simp only [dH,sa,hents,Bool.true_and,y7,Bool.or_eq_true,decide_eq_true_eq];exact ⟨fb,by omega⟩
theorem key_neg {l:List dC} {code:Int}:∀ n k,kG l code n k<0->(∀ m,0<=(code + (m:Int)) % l.length)->∀ m:Nat,k<=m->m<k + n->dU (lC l ((code + m) % l.length))=false
 | 0,k,_,_,m,h1,h2=>by omega
 | n + 1,k,h,hp,m,h1,h2=>by
  simp only [kG] at h;split at h
  ·have:=hp k; omega
  ·rename_i hk;by_cases e:m=k
   ·subst e;simpa using hk
   ·exact key_neg n (k + 1) h hp m (by omega) (by omega)
theorem u7 {l:List dC} {code:Int}:∀ n k,0<=kG l code n k->dU (lC l (kG l code n k))=true
 | 0,k,h=>by simp [kG] at h
 | n + 1,k,h=>by
  simp only [kG] at h ⊢;split
  ·assumption
  ·rename_i hk;rw [if_neg hk] at h;exact u7 n (k + 1) h
theorem keyZ_neg {l:List dC} (hl:oks l) {c:Int} (hc:0<=c) (h:jK l c<0) {z:Int} (h0:0<=z) (h1:z<l.length):dU (lC l z)=false:=by
 have hp:=hl.1;have hn:(l.length:Int)≠0:=by omega
 have fb:∀ m,0<=(c + (m:Int)) % l.length:=fun m=>yI _ hn
 have:=key_neg (l:=l) (code:=c) l.length 0 h fb ((z - c) % l.length).toNat (by omega) (by
  have:=yL (z - c) (b:=(l.length:Int)) (by omega);omega)
 have h2:=yI (z - c) hn;rw [show (((z - c) % l.length).toNat:Int)=(z - c) % l.length from by omega,Int.add_emod_emod] at this;rw [show c + (z - c)=z from by omega,Int.emod_eq_of_lt h0 h1] at this;exact this
theorem OY {l:List dC} (hl:oks l) {c d:Int} (hc:0<=c) (hd:0<=d) (h:jK l c<0):jK l d<0:=by
 by_cases h':jK l d<0
 ·exact h'
 ·have h1:=u7 (l:=l) (code:=d) l.length 0 (by simpa [jK] using h');have h2:=qP hl d l.length 0;have h3:=keyZ_neg hl hc h (z:=jK l d) (by omega) (by unfold jK; omega);unfold jK at h3;rw [h3] at h1;cases h1
structure TypD (l:List dC) (i:Nat) (b:fA):Prop where
 good:bB b=true
 nm:b.named=true->b.name=XJ (i:Int)
 uses:∀ u∈b.usesL,0<=u/\u<l.length
 key:b.kind=8->dU (lC l b.key)=true
theorem ZL {n:Nat} {bs:List BB} (h:rwL n [] bs):bs=[]:=yM h.1.symm
theorem G4 {l:List dC} (hl:oks l) {i:Nat} (hi:i<l.length) {rc:Bool} {ps:List WP} {bs:List BB} (h:rwL l.length (BE l (i:Int) rc ps) bs):∀ u∈bs.map BB.ty,0<=u/\u<l.length:=fun u hu=>by
 obtain ⟨b,hb,rfl⟩:=yy.1 hu;obtain ⟨j,hj,rfl⟩:=yB hb;have oy:j<(BE l (i:Int) rc ps).length:=by rw [h.1]; exact hj
 have hm:=h.2 j _ _ (y4 oy) (y4 hj);obtain ⟨id,p,_,_,_,hp,he⟩:=NL 12 _ (y6 oy);rcases hm.2.2.2 with h4 | ⟨h4,h5,_⟩
 ·rw [h4,he];simp only [RJ,decide_eq_true_eq] at hp;exact ⟨hp.2,(mP hl (i:Int) p.ty (by omega)).2⟩
 ·exact ⟨h4,h5⟩
theorem typ_d {l:List dC} (hl:oks l) {i:Nat} (hi:i<l.length) {b:fA} (h:rwT l.length (nB l (i:Int)) b):TypD l i b:=by
 obtain ⟨bs,df,rfl⟩:=h;have hx:=PF hl hi;obtain ⟨xk,xa,xb,xc,_⟩:=l6 _ hx;have hl5:=hl.2.1;have hn:(l.length:Int)≠0:=by omega
 have nv:=R4 hx;have jb:QF (XJ (i:Int))=true:=B5 ⟨i,by omega⟩;have eb:aN (iI (HA l (i:Int)).a)=true:=by
  have:=symsZ_ok ⟨(HA l (i:Int)).a.toNat,by have:=xa.2; have:=xa.1; omega⟩
  rwa [show (((HA l (i:Int)).a.toNat:Nat):Int)=(HA l (i:Int)).a from by have:=xa.1; omega] at this
 have rp:0<=(HA l (i:Int)).c % l.length/\(HA l (i:Int)).c % l.length<l.length:=⟨yI _ hn,yL _ (by omega)⟩;unfold nB at df ⊢;generalize HA l (i:Int)=x at *
 by_cases k1:x.kind=1
 ·simp only [k1] at df ⊢;obtain rfl:=ZL df;exact ⟨by simp [bB,PH,fA.left,fA.same,CB,fA.of,aB],fun h=>by simp [fA.named,fA.of] at h,fun u hu=>by simp [fA.usesL,fA.of] at hu,fun h=>by simp [fA.of] at h⟩
 by_cases k2:x.kind=2
 ·simp only [k2] at df ⊢;obtain rfl:=ZL df;have hlh:x.low<=x.high:=by
   simp only [dC.high];have:=yI x.b (show (6:Int)≠0 by decide);omega
  exact ⟨by simp [bB,PH,fA.left,fA.same,CB,fA.of,aB,hlh],fun h=>by simp [fA.named,fA.of] at h,fun u hu=>by simp [fA.usesL,fA.of] at hu,fun h=>by simp [fA.of] at h⟩
 by_cases k3:x.kind=3
 ·simp only [k3] at df ⊢;obtain rfl:=ZL df;exact ⟨by simp [bB,PH,fA.left,fA.same,CB,fA.of,aB]; omega,fun h=>by simp [fA.named,fA.of] at h,fun u hu=>by simp [fA.usesL,fA.of] at hu,fun h=>by simp [fA.of] at h⟩
 by_cases k4:x.kind=4
 ·simp only [k4] at df ⊢;obtain rfl:=ZL df;exact ⟨by simp [bB,PH,fA.left,fA.same,CB,fA.of,aB,jb,eb],fun h=>by simp [fA.of],fun u hu=>by simp [fA.usesL,fA.of] at hu,fun h=>by simp [fA.of] at h⟩
 by_cases k5:x.kind=5
 ·simp only [k5] at df ⊢;have hg:=ZY df (.inl rfl);have hu:=G4 hl hi df;exact ⟨by simp [bB,PH,fA.left,fA.same,CB,fA.of,aB,jb,hg],fun h=>by simp [fA.of],fun u h=>hu u (by simpa [fA.usesL,fA.of] using h),fun h=>by simp [fA.of] at h⟩
 by_cases k6:x.kind=6
 ·simp only [k6] at df ⊢;by_cases he:(BE l (i:Int) false x.parts).isEmpty=true
  ·simp only [he,if_true] at df ⊢;obtain rfl:=ZL df;exact ⟨by simp [bB,PH,fA.left,fA.same,CB,fA.of,aB,jb,dH,TC],fun h=>by simp [fA.of],fun u hu=>by simp [fA.usesL,fA.of] at hu,fun h=>by simp [fA.of] at h⟩
  ·simp only [he,if_false,yr] at df ⊢;have na:bs≠[]:=fun e=>by
    rw [e] at df;have:=df.1;simp only [List.length_nil] at this;rw [yM this] at he;simp at he
   have hg:=ZY df (.inr na);have hu:=G4 hl hi df;exact ⟨by simp [bB,PH,fA.left,fA.same,CB,fA.of,aB,jb,hg],fun h=>by simp [fA.of],fun u h=>hu u (by simpa [fA.usesL,fA.of] using h),fun h=>by simp [fA.of] at h⟩
 by_cases k7:x.kind=7
 ·simp only [k7] at df ⊢;obtain rfl:=ZL df;exact ⟨by simp [bB,PH,fA.left,fA.same,CB,fA.of,aB]; omega,fun h=>by simp [fA.named,fA.of] at h,fun u hu=>by simp [fA.usesL,fA.of] at hu; rw [hu]; exact rp,fun h=>by simp [fA.of] at h⟩
 by_cases k8:x.kind=8
 ·simp only [k8] at df ⊢;by_cases hc:jK l x.b<0
  ·simp only [if_pos hc] at df ⊢;obtain rfl:=ZL df;exact ⟨by simp [bB,PH,fA.left,fA.same,CB,fA.of,aB]; omega,fun h=>by simp [fA.named,fA.of] at h,fun u hu=>by simp [fA.usesL,fA.of] at hu; rw [hu]; exact rp,fun h=>by simp [fA.of] at h⟩
  ·simp only [if_neg hc] at df ⊢;obtain rfl:=ZL df;have nv:=qP hl x.b l.length 0;refine ⟨by simp [bB,PH,fA.left,fA.same,CB,fA.of,aB]; omega,fun h=>by simp [fA.named,fA.of] at h,fun u hu=>?_,fun h=>u7 l.length 0 (by simpa [jK] using hc)⟩;simp [fA.usesL,fA.of] at hu;rcases hu with rfl | rfl
   ·exact ⟨by omega,nv.2⟩
   ·exact rp
 have k9:x.kind=9:=by omega
 simp only [k9] at df ⊢;obtain rfl:=ZL df;exact ⟨by simp [bB,PH,fA.left,fA.same,CB,fA.of,aB],fun h=>by simp [fA.named,fA.of] at h,fun u hu=>by simp [fA.usesL,fA.of] at hu; rw [hu]; exact rp,fun h=>by simp [fA.of] at h⟩
theorem kdAt_nd (l:List dC) {j:Nat} (hj:j<l.length):lC l (j:Int)=(HA l (j:Int)).kind:=by
 simp [lC,HA,y4 hj]
theorem XP (l:List dC) {j:Nat} (hj:j<l.length):(nB l (j:Int)).kind=(if lC l (j:Int)=6/\(BE l (j:Int) false (HA l (j:Int)).parts).isEmpty=true then 5 else if lC l (j:Int)=8/\jK l (HA l (j:Int)).b<0 then 7 else if 1<=lC l (j:Int)/\lC l (j:Int)<=8 then lC l (j:Int) else 9):=by
 rw [kdAt_nd l hj];unfold nB;generalize HA l (j:Int)=x;simp only;split
 ·rename_i h; simp [h,fA.of]
 ·rename_i h; simp [h,fA.of]
 ·rename_i h; simp [h,fA.of]
 ·rename_i h; simp [h,fA.of]
 ·rename_i h; simp [h,fA.of]
 ·rename_i h;split
  ·rename_i h'; simp [h,h',fA.of]
  ·rename_i h'; simp [h,h',fA.of]
 ·rename_i h; simp [h,fA.of]
 ·rename_i h;split
  ·rename_i h'; simp [h,h',fA.of]
  ·rename_i h'; simp [h,h',fA.of]
 ·rename_i h1 h2 h3 h4 h5 h6 h7 h8;have e6:¬ x.kind=6:=h6;have e8:¬ x.kind=8:=h8;have hr:¬ (1<=x.kind/\x.kind<=8):=fun ⟨a,b⟩=>by
   have q1:¬ x.kind=1:=h1;have q2:¬ x.kind=2:=h2;have q3:¬ x.kind=3:=h3;have q4:¬ x.kind=4:=h4;have q5:¬ x.kind=5:=h5;have q7:¬ x.kind=7:=h7;omega
  simp [e6,e8,hr,fA.of]
theorem xS {n:Nat} {l:List dC} {T:List fA} (h:rwS n (uA l) T):T.length=l.length:=by
 have:=h.1;simp [uA] at this;exact this.symm
theorem ZP {l:List dC} {T:List fA} (h:rwS l.length (uA l) T) {i:Nat} (hi:i<T.length):rwT l.length (nB l (i:Int)) T[i]:=by
 have fc:i<l.length:=by rw [<- xS h]; exact hi
 exact h.2 i _ _ (by simp [uA,fc]) (y4 hi)
theorem jX {n:Nat} {a b:fA} (h:rwT n a b):b.kind=a.kind:=by
 obtain ⟨bs,_,rfl⟩:=h;rfl
theorem QS {l:List fA} (h:∀ i,(hi:i<l.length)->XC l i l[i]=0):∀ n i,NC l n i=0
 | 0,i=>rfl
 | n + 1,i=>by
  rw [NC];by_cases hi:i<l.length
  ·rw [y4 hi];simp only [h i hi,if_true];exact QS h n (i + 1)
  ·rw [yW (by omega)]
theorem AT {l:List dC} (hl:oks l) {T:List fA} (h:rwS l.length (uA l) T):valid T=0:=by
 have hl5:=hl.2.1;have ja:=xS h;unfold valid;rw [if_neg (by omega)];refine QS (fun i hi=>?_) _ _;have hd:∀ j,(hj:j<T.length)->TypD l j T[j]:=fun j hj=>typ_d hl (by omega) (ZP h hj)
 obtain ⟨hg,jb,hu,hk⟩:=hd i hi;unfold XC;rw [if_neg (by rw [hg]; decide)];rw [if_neg]
 ·rw [if_neg]
  ·rw [if_neg];rintro ⟨h8,hn⟩;have bc:=hk h8;have huk:=hu T[i].key (by simp [fA.usesL,h8]);have zh:T[i].key.toNat<T.length:=by omega
   apply hn;unfold SI;rw [y4 zh];simp only;rw [jX (ZP h zh),XP l (by omega)];rw [show ((T[i].key.toNat:Nat):Int)=T[i].key from by omega];simp only [dU,decide_eq_true_eq] at bc;rw [if_neg (by omega),if_neg (by omega),if_pos (by omega)];exact bc
  ·intro nw;obtain ⟨u,ma,ho⟩:=List.any_eq_true.1 nw;have:=hu u ma;simp only [mB,Bool.or_eq_true,decide_eq_true_eq] at ho;omega
 ·rintro ⟨hn,ma⟩;rw [yy] at ma;obtain ⟨b,hb,he⟩:=ma;obtain ⟨j,hj,rfl⟩:=yB hb;rw [yC] at hj;rw [List.getElem_take] at he;have hjT:j<T.length:=by omega
  obtain ⟨hgj,hnmj,_,_⟩:=hd j hjT;rw [jb hn] at he;have hbn:T[j].named=true:=by
   cases hc:T[j].named with
   | true=>rfl
   | false =>
    have fc:=B5 ⟨i,by omega⟩;simp only at fc;rw [<- he] at fc;have ad:T[j].name=⟨#[]⟩:=by
     unfold bB at hgj;simp only [fA.named,Bool.or_eq_false_iff,decide_eq_false_iff_not] at hc;simp only [y7,decide_eq_true_eq] at hgj;have hs:=hgj.2.2;unfold fA.left at hs;obtain ⟨⟨c4,c5⟩,c6⟩:=hc;simp only [c4,c5,c6,if_false] at hs;split at hs
     ·simp only [fA.same,CB,y7,decide_eq_true_eq] at hs; exact of_decide_eq_true hs.1.1.1.1.1.1.1.1.2
     ·split at hs
      ·simp only [fA.same,CB,y7,decide_eq_true_eq] at hs; exact of_decide_eq_true hs.1.1.1.1.1.1.1.1.2
      ·split at hs
       ·simp only [fA.same,CB,y7,decide_eq_true_eq] at hs; exact of_decide_eq_true hs.1.1.1.1.1.1.1.1.2
       ·split at hs
        ·simp only [fA.same,CB,y7,decide_eq_true_eq] at hs; exact of_decide_eq_true hs.1.1.1.1.1.1.1.1.2
        ·split at hs
         ·simp only [fA.same,CB,y7,decide_eq_true_eq] at hs; exact of_decide_eq_true hs.1.1.1.1.1.1.1.1.2
         ·simp only [fA.same,CB,y7,decide_eq_true_eq] at hs; exact of_decide_eq_true hs.1.1.1.1.1.1.1.1.2
    rw [ad] at fc;exact absurd fc (by decide)
  have:=tName_inj ⟨j,by omega⟩ ⟨i,by omega⟩ (by simp only; rw [<- hnmj hbn,he]);have:=congrArg Fin.val this;simp only at this;omega
theorem M3 {α:Type} (p:α->Bool):∀ l:List α,(∃ x∈l,p x=true)->0<=cB p l
 | [],h=>by obtain ⟨x,hx,_⟩:=h; cases hx
 | x :: r,h=>by
  have hg:=WE p r;unfold cB;by_cases hp:p x=true
  ·rw [if_pos hp]; exact Int.le_refl 0
  ·rw [if_neg hp];have:0<=cB p r:=M3 p r (by
    obtain ⟨y,hy,hpy⟩:=h;rcases yf.1 hy with rfl | hy
    ·exact absurd hpy hp
    ·exact ⟨y,hy,hpy⟩)
   rw [if_neg (by omega)];omega
theorem idAt_mem (a c:Int) (hc:0<=c):0<=wG (iI a) (B6 a c):=by
 have ja:=OR a;have hn:((lF a).length:Int)≠0:=by omega
 have h0:=yI c hn;have h1:=yL c (b:=((lF a).length:Int)) (by omega);have da:(c % (lF a).length).toNat<(lF a).length:=by omega
 refine M3 _ _ ⟨⟨B6 a c,sName (B6 a c)⟩,?_,by simp⟩;unfold iI;refine yy.2 ⟨B6 a c,?_,rfl⟩;unfold B6;rw [y4 da];exact y6 da
theorem N6 {l:List dC} (hl:oks l) {T:List fA} (h:rwS l.length (uA l) T) {t c:Int} (ht:0<=t/\t<l.length) (hc:0<=c) (hi:(LJ l t c).2=true):KH T t (LJ l t c).1=true:=by
 have ja:=xS h;have hjT:t.toNat<T.length:=by omega
 have xh:t.toNat<l.length:=by omega
 have df:=ZP h hjT;have ep:((t.toNat:Nat):Int)=t:=by omega
 have ub:=XP l xh;rw [ep] at df ub;have hx:=PF hl xh;rw [ep] at hx;have nv:=W4 hl ht.1 ht.2;have dh:lC l t=(HA l t).kind:=by rw [<- ep]; exact kdAt_nd l xh
 obtain ⟨xk,xa,xb,xc,_⟩:=l6 _ hx;unfold KH;unfold jG;have ho:mB T.length t=false:=by simp [mB]; omega
 rw [ho,y4 hjT];generalize hf:jG T _=f;clear hf;have hk:=jX df;rw [ub] at hk;unfold LJ at hi ⊢;by_cases gn:lC l t=5\/lC l t=6
 ·rw [if_pos gn] at hi; cases hi
 rw [if_neg gn];have e6:¬ (lC l t=6/\(BE l t false (HA l t).parts).isEmpty=true):=fun e=>gn (.inr e.1)
 rw [if_neg e6] at hk;obtain ⟨bs,sw,hb⟩:=df;rw [hb] at hk ⊢;simp only [Bool.not_false,Bool.true_and];have zb:inK l t=(nB l t).kind:=by
  unfold inK;by_cases h8:lC l t=8
  ·by_cases hn:jK l 0<0
   ·have tk:=OY hl (by omega) xb.1 hn;rw [if_pos ⟨h8,hn⟩];rw [if_pos ⟨h8,tk⟩] at hk;exact hk.symm
   ·have tk:¬ jK l (HA l t).b<0:=fun q=>hn (OY hl xb.1 (by omega) q)
    rw [if_neg (fun q=>hn q.2)];rw [if_neg (fun q=>tk q.2),if_pos (by omega)] at hk;exact hk.symm
  ·rw [if_neg (fun q=>h8 q.1)];rw [if_neg (fun q=>h8 q.1)] at hk;by_cases h9:lC l t<=8
   ·rw [if_pos ⟨by omega,h9⟩] at hk; exact hk.symm
   ·rw [if_neg (fun q=>h9 q.2)] at hk;show lC l t=_;have:(nB l t).kind=9:=hk;omega
 rw [zb];have hzV:∀ (k:Int) (b:Bool) (i:Int) (s:ByteArray) (d:Int),(k=1\/b=false)->(k=2\/i=0)->(k=3\/s=⟨#[]⟩)->(k=4\/k=6\/d=0)->kE (Vl.of k b i s d)=true:=fun k b i s d h1 h2 h3 h4=>by
  simp only [kE,Vl.of,Vl.kind,Vl.b,Vl.i,Vl.s,Vl.id,Vl.keys,Vl.items,Vl.rest,List.isEmpty_nil,Bool.or_true,Bool.and_true,y7,Bool.or_eq_true,decide_eq_true_eq,Bool.not_eq_true',or_assoc];exact ⟨h1.imp (fun h=>decide_eq_true h) id,h2.imp (fun h=>decide_eq_true h) (fun h=>decide_eq_true h),h3.imp (fun h=>decide_eq_true h) (fun h=>decide_eq_true h),h4.imp (fun h=>decide_eq_true h) (Or.imp (fun h=>decide_eq_true h) (fun h=>decide_eq_true h))⟩
 by_cases k1:lC l t=1
 ·have hz:(nB l t).kind=1:=by simp [nB,<- dh,k1,fA.of]
  rw [hz];simp [Vl.of,Vl.kind,DQ,kE,Vl.b,Vl.i,Vl.s,Vl.id,Vl.keys,Vl.items,Vl.rest,k1]
 by_cases k2:lC l t=2
 ·have hz:(nB l t).kind=2:=by simp [nB,<- dh,k2,fA.of]
  have hlo:(nB l t).low=(HA l t).low:=by simp [nB,<- dh,k2,fA.of]
  have bt:(nB l t).high=(HA l t).high:=by simp [nB,<- dh,k2,fA.of]
  rw [hz,hlo,bt];have h1:=yI c (show (HA l t).b % 6 + 1≠0 by have:=xb.1; omega);have h2:=yL c (show 0<(HA l t).b % 6 + 1 by have:=xb.1; omega);have h3:(HA l t).low<=(HA l t).low + c % ((HA l t).b % 6 + 1):=by omega
  have h4:(HA l t).low + c % ((HA l t).b % 6 + 1)<=(HA l t).high:=by simp only [dC.high]; omega
  simp [Vl.of,Vl.kind,DQ,kE,Vl.b,Vl.i,Vl.s,Vl.id,Vl.keys,Vl.items,Vl.rest,k2,h3,h4,h1]
 by_cases k3:lC l t=3
 ·have hz:(nB l t).kind=3:=by simp [nB,<- dh,k3,fA.of]
  have sv:(nB l t).max=(HA l t).a % 4:=by simp [nB,<- dh,k3,fA.of]
  have h0:0<=(HA l t).a % 4:=by omega
  have hs0:(⟨#[]⟩:ByteArray).size=0:=rfl;have uk:(⟨#[97]⟩:ByteArray).size=1:=rfl;rw [hz,sv];by_cases hq:0<(HA l t).a % 4/\c % 2=1
  ·have h1:1<=(HA l t).a % 4:=by omega
   simp [Vl.of,Vl.kind,DQ,kE,Vl.b,Vl.i,Vl.s,Vl.id,Vl.keys,Vl.items,Vl.rest,k3,hq,uk,h1]
  ·simp [Vl.of,Vl.kind,DQ,kE,Vl.b,Vl.i,Vl.s,Vl.id,Vl.keys,Vl.items,Vl.rest,k3,hq,hs0,h0]
 by_cases k4:lC l t=4
 ·have hz:(nB l t).kind=4:=by simp [nB,<- dh,k4,fA.of]
  have eb:(nB l t).syms=iI (HA l t).a:=by simp [nB,<- dh,k4,fA.of]
  have hm:=idAt_mem (HA l t).a c hc;rw [hz,eb];simp [Vl.of,Vl.kind,DQ,kE,Vl.b,Vl.i,Vl.s,Vl.id,Vl.keys,Vl.items,Vl.rest,k4,hm]
 have hz:7<=(nB l t).kind/\(nB l t).kind<=9:=by
  rw [ub,if_neg e6];split
  ·omega
  ·split <;> omega
 have sv:(nB l t).kind<=8->0<=(nB l t).max:=fun h8=>by
  by_cases k7:lC l t=7
  ·have:(nB l t).max=(HA l t).a % 4:=by simp [nB,<- dh,k7,fA.of]
   omega
  by_cases k8:lC l t=8
  ·by_cases hc:jK l (HA l t).b<0
   ·have:(nB l t).max=(HA l t).a % 4:=by simp [nB,<- dh,k8,hc,fA.of]
    omega
   ·have:(nB l t).max=(HA l t).a % 4:=by simp [nB,<- dh,k8,hc,fA.of]
    omega
  have k9:lC l t=9:=by omega
  have:(nB l t).kind=9:=by simp [nB,<- dh,k9,fA.of]
  omega
 generalize (nB l t).kind=kk at *
 have q1:¬ kk=1:=by omega
 have q2:¬ kk=2:=by omega
 have q3:¬ kk=3:=by omega
 have q4:¬ kk=4:=by omega
 have q5:¬ kk=5:=by omega
 have q6:¬ kk=6:=by omega
 have po:DQ f { kind:=kk,name:=(nB l t).name,low:=(nB l t).low,high:=(nB l t).high,max:=(nB l t).max,sn:=(nB l t).sn,syms:=(nB l t).syms,mn:=bs.isEmpty,mems:=bs,key:=(nB l t).key,elem:=(nB l t).elem,opn:=(nB l t).opn } (Vl.of kk false 0 ⟨#[]⟩ 0)=true:=by
  simp only [DQ,q1,q2,q3,q4,q5,q6,if_false,Vl.of,Vl.items,Vl.keys];by_cases k7:kk=7
  ·simp [k7,sv (by omega)]
  by_cases k8:kk=8
  ·simp [k8,sv (by omega),qN]
  simp [k7,k8]
 simp only [k1,k2,k3,k4,false_and,if_false,decide_false];rw [hzV kk false 0 ⟨#[]⟩ 0 (.inr rfl) (.inr rfl) (.inr rfl) (.inr (.inr rfl)),po];simp [Vl.of,Vl.kind]
theorem QV {S:List fA} (h:∀ t∈S,rI S t=none):∀ n i,AD S n i=none
 | 0,i=>rfl
 | n + 1,i=>by
  rw [AD];cases hi:S[i]? with
  | none=>rfl
  | some t =>
   simp only [h t (yj hi)];exact QV h n (i + 1)
theorem rwS_err {l:List dC} (hl:oks l) {T:List fA} (h:rwS l.length (uA l) T):xE T=0:=by
 unfold xE;rw [if_pos (AT hl h),QV fun t ht=>?_];obtain ⟨i,hi,rfl⟩:=yB ht;have tg:i<l.length:=by rw [<- xS h]; exact hi
 unfold rI;rw [Option.map_eq_none_iff,List.find?_eq_none];intro m hm;obtain ⟨bs,sw,hb⟩:=ZP h hi;have md:m∈bs:=by rw [hb] at hm; exact hm
 obtain ⟨j,hj,rfl⟩:=yB md;have oy:j<(nB l (i:Int)).mems.length:=by rw [sw.1]; exact hj
 have hr:=sw.2 j _ _ (y4 oy) (y4 hj);unfold iM;rcases hr.2.2.2 with h4 | ⟨_,_,h5,_⟩
 ·rw [h4];have hmz:∃ rc id p,p.ok/\RJ l (i:Int) id p=true/\(nB l (i:Int)).mems[j]=JL l (i:Int) rc id p:=by
   have ma:=y6 oy;generalize (nB l (i:Int)).mems[j]=m at *
   have hx:=PF hl tg;unfold nB at ma;generalize HA l (i:Int)=x at *
   have hp:∀ rc,m∈BE l (i:Int) rc x.parts->∃ rc id p,p.ok/\RJ l (i:Int) id p=true/\m=JL l (i:Int) rc id p:=fun rc ma=>by
    obtain ⟨id,p,_,_,h1,h2,h3⟩:=NL 12 m ma;exact ⟨rc,id,p,hx.2.2.2.2.2 p h1,h2,h3⟩
   simp only at ma;split at ma <;> first | (simp [fA.of] at ma; done) | exact hp _ ma | skip
   all_goals split at ma <;> first | (simp [fA.of] at ma; done) | exact hp _ ma
  obtain ⟨rc,id,p,tn,hp,he⟩:=hmz;rw [he];simp only [RJ,decide_eq_true_eq] at hp;have bi:=mP hl (i:Int) p.ty (by omega);cases hh:(JL l (i:Int) rc id p).has with
  | false=>simp
  | true =>
   simp only [JL,y7,decide_eq_true_eq] at hh;have:=N6 hl h ⟨hp.2,bi.2⟩ (c:=p.flag / 4) (by have:=tn.2.2.1; omega) hh.2;simp [JL,hh.1,this]
 ·simp [h5]
theorem b5 {w:uF}:∀ (l:List BB) (c:Int),(∀ m∈l,1<=w m.ty.toNat)->1<=c->1<=lO w l c
 | [],c,_,hc=>hc
 | x :: r,c,hm,hc=>by
  rw [lO];have h1:=hm x yk;have h2:1 * 1<=c * w x.ty.toNat:=Int.mul_le_mul hc h1 (by decide) (by omega);exact b5 r _ (fun m h=>hm m (yp _ h)) (by omega)
theorem sumF_ge {w:uF}:∀ (l:List BB) (c:Int),(∀ m∈l,0<=w m.ty.toNat)->c<=LU w l c/\((∃ m∈l,1<=w m.ty.toNat)->c + 1<=LU w l c)
 | [],c,_=>⟨Int.le_refl _,fun h=>by obtain ⟨m,hm,_⟩:=h; cases hm⟩
 | x :: r,c,hm=>by
  rw [LU];have h0:=hm x yk;obtain ⟨h1,h2⟩:=sumF_ge r (c + w x.ty.toNat) fun m h=>hm m (yp _ h)
  refine ⟨by omega,fun h=>?_⟩;obtain ⟨m,ma,hp⟩:=h;rcases yf.1 ma with rfl | ma
  ·omega
  ·have:=h2 ⟨m,ma,hp⟩;omega
theorem zY {N:Nat} {w:uF} (hw:fM N w) {x:fA} (hx:mD N x) (hg:bB x=true) (h5:x.kind≠5) (h6:x.kind≠6):1<=kF x w:=by
 unfold kF;by_cases h2:x.kind=2
 ·rw [if_pos h2]; split <;> omega
 rw [if_neg h2];by_cases h3:x.kind=3
 ·rw [if_pos h3]; split <;> omega
 rw [if_neg h3];by_cases h4:x.kind=4
 ·rw [if_pos h4];unfold bB at hg;rw [y7,y7] at hg;have ho:=hg.2.1;unfold PH at ho;rw [if_neg h2,if_neg h3,if_pos h4,y7] at ho;have hs:=ho.2;unfold aN at hs;rw [y7] at hs;have:=of_decide_eq_true hs.1;omega
 rw [if_neg h4,if_neg h5,if_neg h6];by_cases h7:x.kind=7
 ·rw [if_pos h7]; split <;> omega
 rw [if_neg h7];by_cases h8:x.kind=8
 ·rw [if_pos h8]; split <;> omega
 rw [if_neg h8];by_cases h9:x.kind=9
 ·rw [if_pos h9];have:=hx.elem (by omega);have:=hw x.elem.toNat (by omega);omega
 rw [if_neg h9];omega
theorem typZ_mn (l:List dC) (i:Int):(nB l i).mn=(nB l i).mems.isEmpty:=by
 unfold nB;generalize HA l i=x;simp only;split
 all_goals first | rfl | skip
 ·split
  ·rfl
  ·rename_i h; simp only [fA.of]; simpa using h
 ·split <;> rfl
theorem zM (l:List dC):rwS l.length (uA l) (uA l):=by
 refine ⟨rfl,fun i a b ha hb=>?_⟩;rw [ha] at hb;injection hb with hb;subst hb;have hm:a.mn=a.mems.isEmpty:=by
  obtain ⟨hi,rfl⟩:=y9.1 ha;simp only [uA,List.getElem_map,List.getElem_range];exact typZ_mn l _
 exact ⟨a.mems,F5 _ _,by rw [<- hm]⟩
theorem frz_typsI {l:List dC} {L:List (List AV)} {s:aA} (h:qJ (uA l) L s) {t N c:Nat} (hm:s.mem t N=some (sA L)):AV.frz0 s (.ref t N 10 0 L.length c)=.sl false ((uA l).map eA):=by
 have hL:(L.map fun c=>c.map (AV.frz1 s))=(uA l).map eA:=by
  refine List.ext_getElem (by simp [h.1]) fun i h1 h2=>?_
  have hi:i<(uA l).length:=by simpa using h2
  have hiL:i<L.length:=by simpa using h1
  obtain ⟨m,g1,g2⟩:=h.2 i _ _ (y4 hi) (y4 hiL);simp only [List.getElem_map];rw [g1];have hmn:(uA l)[i].mn=(uA l)[i].mems.isEmpty:=by
   simp only [uA,List.getElem_map,List.getElem_range];exact typZ_mn l _
  have hc:AV.frz1 s m=.sl (uA l)[i].mn ((uA l)[i].mems.map nA):=by
   rw [hmn];rcases g2 with ⟨e,rfl⟩ | ⟨M,na,_,rfl,hM⟩
   ·rw [e]; rfl
   ·have lg:(uA l)[i].mems.isEmpty=false:=by simpa using na
    have:=GG (sz:=13) (BU (uA l)[i].mems) (LY (uA l)[i].mems);simp only [yo] at this;simp only [AV.frz1,hM,V,this,lg]
  rw [<- typL_C];simp only [WF,yg,yn,hc];rfl
 rw [frz_row (h.toR 0).els hm (by rw [hL]; simp [eA,AV.free0]),hL]
theorem U0 {dn:Bool} {l:List dC} (hx:∀ x∈l,x.ok):(oks l/\gA 34 [.agg (mF dn l)] (.tup [.agg [.sl false ((uA l).map eA)],.bool true]))\/(¬ oks l/\gA 34 [.agg (mF dn l)] (.tup [.agg [.sl true []],.bool false])):=by
 have nd:bF.res=[.cell 2 true 1,.tmp 3]:=rfl;by_cases hl:1<=l.length/\l.length<=5
 ·left;refine ⟨⟨hl.1,hl.2,hx⟩,?_⟩;refine wA (c:=bF) rfl rfl ?_;refine of_run (dn:=dn) ⟨hl.1,hl.2,hx⟩ _ rfl (fun t n row h=>by cases h) (fun t n row _ h=>by cases h) ?_ ?_ ?_ _ (fun s' h=>?_)
  ·intro t;rcases t with _ | t
   ·exact aW (fun c hc=>by simp only [mF,List.mem_singleton] at hc; subst hc; exact JP rfl)
   ·exact fun _ _ _=>rfl
  ·exact fun t _ _ _=>rfl
  ·exact fun t=>fS _
  ·obtain ⟨hc,e2,e3,lt,N,L,h2,hN,da,jl,hL,hT⟩:=h;have g2:=frz_typsI hT (c:=l.length) jl;rw [hL] at g2;have bo:(s'.env 2).v=.ptr 2 1 0:=e2;have zm:s'.mem 2 1=some [⟨.ref 168 N 10 0 l.length l.length,.no⟩]:=h2;have f1:AV.frz s' (.agg [.ref 168 N 10 0 l.length l.length])=.agg [.sl false ((uA l).map eA)]:=by simp only [AV.frz,yg,yn,g2]
   have f2:AV.frz s' (.bool true)=.bool true:=rfl;simp [KN,nd,gS,bo,e3,zm,MA,f1,f2,SV,AV.free,AV.free0,KU,-AV.frz,-AV.frz0]
 ·right;refine ⟨fun h=>hl ⟨h.1,h.2.1⟩,?_⟩;refine wA (c:=bF) rfl rfl ?_;refine of_bad hl _ rfl (fun t n row h=>by cases h) _ (fun s' hc e2 e3 h2=>?_);have bo:(s'.env 2).v=.ptr 2 1 0:=e2;have zm:s'.mem 2 1=some [⟨.sl true [],.no⟩]:=h2;simp [KN,nd,gS,bo,e3,zm,MA,SV,AV.free,AV.free0,KU]
theorem QX {l:List dC} (hl:oks l) {i:Nat} (hi:i<l.length) {m:BB} (ma:m∈(nB l (i:Int)).mems):∃ rc id p,p.ok/\RJ l (i:Int) id p=true/\m=JL l (i:Int) rc id p:=by
 have hx:=PF hl hi;unfold nB at ma;generalize HA l (i:Int)=x at *
 have hp:∀ rc,m∈BE l (i:Int) rc x.parts->∃ rc id p,p.ok/\RJ l (i:Int) id p=true/\m=JL l (i:Int) rc id p:=fun rc ma=>by
  obtain ⟨id,p,_,_,h1,h2,h3⟩:=NL 12 m ma;exact ⟨rc,id,p,hx.2.2.2.2.2 p h1,h2,h3⟩
 simp only at ma;split at ma <;> first | (simp [fA.of] at ma; done) | exact hp _ ma | skip
 all_goals split at ma <;> first | (simp [fA.of] at ma; done) | exact hp _ ma
theorem dflt_kind {l:List dC} (hl:oks l) {T:List fA} (h:rwS l.length (uA l) T):∀ j,(hj:j<T.length)->∀ m∈T[j].mems,m.has=true->∀ y,T[m.ty.toNat]?=some y->y.kind≠5/\y.kind≠6:=fun j hj m hm hh y hy=>by
 have xh:j<l.length:=by rw [<- xS h]; exact hj
 obtain ⟨bs,sw,hb⟩:=ZP h hj;have md:m∈bs:=by rw [hb] at hm; exact hm
 obtain ⟨i,hi,rfl⟩:=yB md;have hia:i<(nB l (j:Int)).mems.length:=by rw [sw.1]; exact hi
 have hr:=sw.2 i _ _ (y4 hia) (y4 hi);rcases hr.2.2.2 with h4 | ⟨_,_,h5,_⟩
 ·obtain ⟨rc,id,p,tn,hp,he⟩:=QX hl xh (y6 hia);rw [h4,he] at hh hy;simp only [RJ,decide_eq_true_eq] at hp;have bi:=mP hl (j:Int) p.ty (by omega);simp only [JL,y7] at hh hy;have h2:=hh.2;unfold LJ at h2;split at h2
  ·cases h2
  ·rename_i hk;obtain ⟨ht,rb⟩:=y9.1 hy;have htl:(GI l (j:Int) p.ty).toNat<l.length:=by omega
   have ub:=XP l htl;have e1:(((GI l (j:Int) p.ty).toNat:Nat):Int)=GI l (j:Int) p.ty:=by omega
   have hrt:=jX (ZP h ht);rw [e1] at ub hrt;rw [<- rb,hrt,ub];rw [if_neg (fun q=>hk (.inr q.1))];split
   ·decide
   ·split
    ·constructor <;> omega
    ·decide
 ·rw [h5] at hh; cases hh
theorem hol_ge {l:List dC}:∀ n k,0<=OF l n k->7<=lC l (OF l n k)
 | 0,k,h=>by simp [OF] at h
 | n + 1,k,h=>by
  rw [OF] at h ⊢;by_cases c:7<=lC l k
  ·rw [if_pos c]; exact c
  ·rw [if_neg c] at h ⊢; exact hol_ge n (k + 1) h
theorem tgt_early {l:List dC} (i code:Int) (h:0<=GI l i code):7<=lC l (GI l i code)\/GI l i code<i:=by
 unfold GI at h ⊢;split
 ·rename_i c; exact c
 ·rename_i c;rw [if_neg c] at h;split
  ·rename_i c2; exact .inr (yL _ c2)
  ·rename_i c2; rw [if_neg c2] at h; exact .inl (hol_ge _ _ h)
theorem typZ_ne {l:List dC} {i:Int} (h:(nB l i).kind=6):(nB l i).mems≠[]:=by
 unfold nB at h ⊢;generalize HA l i=x at *
 simp only at h ⊢;split at h
 all_goals first | (simp [fA.of] at h; done) | skip
 ·rename_i hk;split at h
  ·simp [fA.of] at h
  ·rename_i hn; rw [if_neg hn]; simpa using hn
 ·split at h <;> simp [fA.of] at h
theorem draft_pos {l:List dC} (hl:oks l) {w:uF} (hw:CP (uA l).length (FP (uA l)) w) (fw:∀ j,j<(uA l).length->FP (uA l) j w=w j):∀ j,j<(uA l).length->1<=w j:=by
 have bh:=AT hl (zM l);have hW:=TD bh;intro j
 induction j using Nat.strongRecOn with
 | ind j ih =>
  intro hj;have xh:j<l.length:=by simpa [uA] using hj
  have hx:(uA l)[j]=nB l (j:Int):=by simp [uA]
  have hWj:=hW _ (y6 hj);have hG:bB (uA l)[j]=true:=(aH (MF bh j hj)).1;have h:=fw j hj;unfold FP at h;rw [y4 hj] at h;simp only at h;have ma:∀ m∈(uA l)[j].mems,1<=w m.ty.toNat:=fun m hm=>by
   rw [hx] at hm;obtain ⟨rc,id,p,tn,hp,rfl⟩:=QX hl xh hm;simp only [RJ,decide_eq_true_eq] at hp;have bi:=mP hl (j:Int) p.ty (by omega);have hdl:(uA l).length=l.length:=by simp [uA]
   show 1<=w (GI l (j:Int) p.ty).toNat;rcases tgt_early (j:Int) p.ty hp.2 with h7 | da
   ·have htl:(GI l (j:Int) p.ty).toNat<l.length:=by omega
    have ub:=XP l htl;have e1:(((GI l (j:Int) p.ty).toNat:Nat):Int)=GI l (j:Int) p.ty:=by omega
    have hy:(uA l)[(GI l (j:Int) p.ty).toNat]'(by omega)=nB l (((GI l (j:Int) p.ty).toNat:Nat):Int):=by simp [uA]
    have hk7:7<=(nB l (((GI l (j:Int) p.ty).toNat:Nat):Int)).kind:=by
     rw [ub,e1,if_neg (by omega)];split
     ·omega
     ·split <;> omega
    have hf:=fw (GI l (j:Int) p.ty).toNat (by omega);unfold FP at hf;rw [y4 (by omega)] at hf;simp only at hf;have hc:=zY hw.rng (hW _ (y6 (show (GI l (j:Int) p.ty).toNat<(uA l).length by omega))) (aH (MF bh _ (by omega))).1 (by rw [hy]; omega) (by rw [hy]; omega);omega
   ·exact ih _ (by omega) (by omega)
  have key:1<=kF (uA l)[j] w:=by
   by_cases h5:(uA l)[j].kind=5
   ·unfold kF;simp only [h5];exact b5 _ _ ma (by decide)
   by_cases h6:(uA l)[j].kind=6
   ·unfold kF;simp only [h6];have na:(uA l)[j].mems≠[]:=by
     rw [hx] at h6 ⊢;exact typZ_ne h6
    obtain ⟨m,hm⟩:=List.exists_mem_of_ne_nil _ na;have:=(sumF_ge (w:=w) (uA l)[j].mems 0 (fun m hm=>by have:=ma m hm; omega)).2 ⟨m,hm,ma m hm⟩;simpa using this
   exact zY hw.rng hWj hG h5 h6
  omega
theorem X2 {w:uF}:∀ {n:Nat},(∀ j,j<n->1<=w j)->SH w n=true
 | 0,_=>rfl
 | n + 1,h=>by
  unfold SH;rw [X2 (n:=n) (fun j hj=>h j (by omega)),decide_eq_true (by have:=h n (by omega); omega)];rfl
theorem NK {l:List dC} (hl:oks l):jL ⟨false,uA l⟩ 0:=by
 obtain ⟨hf,h6⟩:=rwS_ok hl (zM l);have wh:=rwS_err hl (zM l);obtain ⟨w,hw,fw,h1,h2⟩:=both_cnts ⟨false,uA l⟩ (AT hl (zM l));have hp:=draft_pos hl hw fw;have hs:GT (uA l) w=0:=by
  unfold GT;rw [if_pos wh,X2 hp];rfl
 have e1:=sound_ev ⟨false,uA l⟩ hf h6 (w:=w) (fun _=>⟨hw.rng,h1⟩);have e2:=rsound_ev ⟨false,uA l⟩ hf h6 (w:=w) (fun _=>⟨hw.rng,h2⟩);rw [show (⟨false,uA l⟩:SG).types=uA l from rfl,hs] at e1 e2;exact ⟨e1,e2⟩
end Go.Proofs.YtbnlmgncbgaepaaGreat
