/- A part of the proof. -/
import Derived.Test.YtpmklcpajcfpjaaGreatDoorWj
import Derived.Test.YtpmklcpajcfpjaaGreatDoorWk
import Derived.Test.YtpmklcpajcfpjaaGreatDoorWl
set_option linter.all false
set_option maxRecDepth 100000
set_option maxHeartbeats 8000000
open Option renaming bind_some → J
open List renaming length_map → yc, all_eq_true → ye, getElem?_eq_getElem → yf, map_cons → ym, getElem?_eq_some_iff → yn, mem_cons_self → yo, mem_cons_of_mem → yp, mem_of_getElem? → yr, mem_append → yu, length_take → yz, getElem_mem → yC, mem_map → yD, map_nil → yQ, mem_singleton → yU, map_append → Y03, eq_nil_of_length_eq_zero → Y04, getElem?_eq_none → Y08, pairwise_cons → Y0f, getElem_of_mem → Y0k
open Bool renaming and_eq_true → yg, false_eq_true → yM
open Int renaming emod_lt_of_pos → Y0h
namespace Go.Proofs.YtpmklcpajcfpjaaGreatDoor
open Go
theorem aT {l:List OF}{i:Int}{rc:Bool}{ps:List MR}:∀(n:Nat)(m:ED),m∈gJ l i rc ps n->∃id p,1<=id/\id<=(n:Int)/\p∈ps/\OR l i id p=true/\m=QT l i rc id p
 |0,m,h=>by simp[gJ]at h
 |n+1,m,h=>by
  rw[gJ]at h;rcases yu.1 h with h|h
  ·obtain⟨id,p,h1,h2,h3⟩:=aT n m h;exact⟨id,p,h1,by omega,h3⟩
  ·unfold PR at h;split at h
   ·rename_i p hp;simp only[yU]at h;exact⟨((n+1:Nat):Int),p,by omega,by omega,List.mem_of_find?_eq_some hp,List.find?_some hp,h⟩
   ·cases h
theorem init_ok {l:List OF}(hl:oks l)(t code:Int)(hc:0<=code):(pP l t code).1.ok/\(pP l t code).1.i64:=by
 have hx:u8 (TD l t).a/\u8 (TD l t).b:=by
  unfold TD;cases h:l[t.toNat]? with
  |none=>exact⟨⟨by decide,by decide⟩,⟨by decide,by decide⟩⟩
  |some x =>
   have:=hl.2.2 x (yr h);exact⟨this.2.1,this.2.2.1⟩
 obtain⟨⟨a0,a1⟩,⟨b0,b1⟩⟩:=hx;unfold pP;split
 ·exact⟨by rw[Vl.WB];simp[Vl.of,Vl.keys,Vl.items,Vl.rest,Vl.s];decide,by rw[Vl.XB];simp[Vl.of,Vl.keys,Vl.items,Vl.i,Ka]⟩
 ·refine ⟨?_,?_⟩
  ·rw[Vl.WB];refine⟨by simp[Vl.of,Vl.keys],by simp[Vl.of,Vl.items],by simp[Vl.of,Vl.rest],?_,by simp[Vl.of,Vl.keys],by simp[Vl.of,Vl.items]⟩;simp only[Vl.of,Vl.s];split<;>exact(by decide)
  ·rw [Vl.XB];refine ⟨?_,by simp [Vl.of,Vl.keys],by simp [Vl.of,Vl.items]⟩;simp only [Vl.of,Vl.i,Ka];split
   ·have hm:0<(TD l t).b % 6 + 1:=by omega
    have:=Int.emod_nonneg code (show(TD l t).b%6+1≠0 by omega);have:=Y0h code hm;simp only[OF.low];omega
   ·omega
theorem memZ_ok {l:List OF}(hl:oks l){i:Int}{rc:Bool}{id:Int}{p:MR}(hp:p.ok):(QT l i rc id p).ok/\(QT l i rc id p).dflt.i64:=by
 have hf:0<=p.flag / 4:=by have:=hp.2.2.1;omega
 obtain⟨h1,h2⟩:=init_ok hl (SU l i p.ty) (p.flag / 4) hf;have hz:Vl.zero.ok/\Vl.zero.i64:=⟨by rw[Vl.WB];simp[Vl.zero,Vl.keys,Vl.items,Vl.rest,Vl.s];decide,by rw[Vl.XB];simp[Vl.zero,Vl.keys,Vl.items,Vl.i,Ka]⟩;have hn:(QT l i rc id p).name.size<=9223372036854775807:=by
  have:=cZ (97+id);have h1:(⟨#[109]⟩:ByteArray).size=1:=rfl;simp only[QT,sQ,ByteArray.size_append];omega
 refine⟨⟨?_,hn⟩,?_⟩<;>simp only[QT]<;>split<;>first|exact h1|exact h2|exact hz.1|exact hz.2
theorem typZ_ok {l:List OF}(hl:oks l)(i:Nat)(hi:i<l.length):(MH l (i:Int)).fine/\(MH l (i:Int)).d64:=by
 have hx:=IK hl hi;have hm:∀rc,∀m∈cI l (i:Int) rc (TD l (i:Int)).parts,m.ok/\m.dflt.i64:=fun rc m h=>by
  obtain⟨id,p,_,_,h1,_,rfl⟩:=aT 12 m h;exact memZ_ok hl (hx.2.2.2.2.2 p h1)
 have da:∀rc,(cI l (i:Int) rc (TD l (i:Int)).parts).length<=12:=fun rc=>gP l _ rc _ 12
 have hs:(FL (TD l (i:Int)).a).length<=6:=by
  have:=DZ (TD l (i:Int)).a;simp only[FL,yc];omega
 have base:∀k nm,(BC.of k nm).fine/\(BC.of k nm).d64:=fun k nm=>⟨⟨⟨by simp[BC.of],by simp[BC.of],by simp[BC.of]⟩,by simp[BC.of],by simp[BC.of]⟩,by simp[BC.d64,BC.of]⟩
 have nb:∀t:BC,t.wA.length<=6->t.qA.length<=12->(∀m∈t.qA,m.ok/\m.dflt.i64)->t.fine/\t.d64:=fun t h1 h2 h3=>⟨⟨⟨by omega,by omega,fun m hm=>(h3 m hm).1⟩,by omega,by omega⟩,fun m hm=>(h3 m hm).2⟩
 unfold MH;simp only;split
 ·exact base _ _
 ·exact nb _ (by simp[BC.of]) (by simp[BC.of]) (by simp[BC.of])
 ·exact nb _ (by simp[BC.of]) (by simp[BC.of]) (by simp[BC.of])
 ·exact nb _ hs (by simp[BC.of]) (by simp[BC.of])
 ·exact nb _ (by simp[BC.of]) (da _) (hm _)
 ·split
  ·exact base _ _
  ·exact nb _ (by simp[BC.of]) (da _) (hm _)
 ·exact nb _ (by simp[BC.of]) (by simp[BC.of]) (by simp[BC.of])
 ·split<;>exact nb _ (by simp[BC.of]) (by simp[BC.of]) (by simp[BC.of])
 ·exact nb _ (by simp[BC.of]) (by simp[BC.of]) (by simp[BC.of])
theorem rwT_ok {n:Nat}{a b:BC}(h:rwT n a b)(ha:a.fine/\a.d64):b.fine/\b.d64:=by
 obtain⟨bs,⟨hl,hm⟩,rfl⟩:=h;obtain⟨⟨⟨h1,h2,h3⟩,h4,h5⟩,h6⟩:=ha;have hz:Vl.zero.ok/\Vl.zero.i64:=⟨by rw[Vl.WB];simp[Vl.zero,Vl.keys,Vl.items,Vl.rest,Vl.s];decide,by rw[Vl.XB];simp[Vl.zero,Vl.keys,Vl.items,Vl.i,Ka]⟩;have hb:∀m∈bs,m.ok/\m.dflt.i64:=fun m pd=>by
  obtain⟨i,hi,rfl⟩:=Y0k pd;have hia:i<a.qA.length:=by omega
  obtain⟨g1,g2,g3,g4⟩:=hm i _ _ (yf hia) (yf hi);have hao:=h3 _ (yC hia);have had:=h6 _ (yC hia);rcases g4 with g4|⟨_,_,_,g4⟩
  ·rw[g4];exact⟨hao,had⟩
  ·exact⟨⟨by rw[g4];exact hz.1,by rw[g2];exact hao.2⟩,by rw[g4];exact hz.2⟩
 exact⟨⟨⟨h1,by dsimp only;omega,fun m pd=>(hb m pd).1⟩,h4,by dsimp only;omega⟩,fun m pd=>(hb m pd).2⟩
theorem rwS_ok {l:List OF}(hl:oks l){T:List BC}(h:rwS l.length (PE l) T):(⟨false,T⟩:CT).fine/\(⟨false,T⟩:CT).d64:=by
 obtain⟨da,h⟩:=h;have hl5:=hl.2.1;have ug:(PE l).length=l.length:=by simp[PE]
 have hT:∀t∈T,t.fine/\t.d64:=fun t ht=>by
  obtain⟨i,hi,rfl⟩:=Y0k ht;have ee:i<l.length:=by omega
  have:=h i (MH l (i:Int)) _ (by simp[PE,ee]) (yf hi);exact rwT_ok this (typZ_ok hl i ee)
 exact⟨⟨by dsimp only;omega,fun t ht=>(hT t ht).1⟩,fun t ht=>(hT t ht).2⟩
theorem Kz:∀d:Fin 13,eI (sQ (d.val:Int))=true:=by decide +kernel
theorem Ls:∀d e:Fin 13,sQ (d.val:Int)=sQ (e.val:Int)->d=e:=by decide +kernel
theorem x9:∀d:Fin 5,eI (GL (d.val:Int))=true:=by decide +kernel
theorem Wf:∀d e:Fin 5,GL (d.val:Int)=GL (e.val:Int)->d=e:=by decide +kernel
theorem Ov:∀a:Fin 256,IP (FL (a.val:Int))=true:=by decide +kernel
theorem Zs {d:Int}(h:0<=d/\d<=12):eI (sQ d)=true:=by
 have:=Kz ⟨d.toNat,by omega⟩
 rwa [show((d.toNat:Nat):Int)=d from by omega]at this
theorem Xq {d e:Int}(h:0<=d/\d<=12)(h':0<=e/\e<=12)(he:sQ d=sQ e):d=e:=by
 have:=Ls ⟨d.toNat,by omega⟩ ⟨e.toNat,by omega⟩;simp only[show((d.toNat:Nat):Int)=d from by omega,show((e.toNat:Nat):Int)=e from by omega]at this;have:=congrArg Fin.val (this he);simp only at this;omega
theorem S7:∀(L:List Int)(b:Int)(seen:List ByteArray),0<=b->(∀d∈L,b<d/\d<=12)->L.Pairwise (·<·)->(∀s∈seen,∃j,0<=j/\j<=b/\s=sQ j)->NE b seen (L.map fun d=>(d,sQ d))=true
 | [],_,_,_,_,_,_=>rfl
 |d::r,b,seen,hb,hd,hp,hs=>by
  have h1:=hd d yo;rw[Y0f]at hp;simp only[ym,NE,yg,Bool.not_eq_true'];refine⟨⟨⟨?_,?_⟩,Zs (by omega)⟩,S7 r d (seen++[sQ d]) (by omega) (fun e he=>⟨hp.1 e he,(hd e (yp _ he)).2⟩) hp.2 fun s po=>?_⟩
  ·simp only[kU,yg,decide_eq_true_eq];omega
  ·refine TV fun oj=>?_
   obtain⟨j,j0,j1,hj⟩:=hs _ oj;have:=Xq (by omega) (by omega) hj;omega
  ·rcases yu.1 po with po | po
   ·obtain⟨j,j0,j1,hj⟩:=hs s po;exact⟨j,j0,by omega,hj⟩
   ·rw[yU]at po;exact⟨d,by omega,by omega,po⟩
theorem Q1 (l:List OF)(i:Int)(rc:Bool)(ps:List MR):∀n:Nat,∃L:List Int,(gJ l i rc ps n).map IH=L.map (fun d=>(d,sQ d))/\L.Pairwise (·<·)/\∀d∈L,1<=d/\d<=(n:Int)
 |0=>⟨[],rfl,List.Pairwise.nil,fun d h=>by cases h⟩
 |n+1=>by
  obtain⟨L,h1,h2,h3⟩:=Q1 l i rc ps n;rw[gJ,Y03,h1];unfold PR;split
  ·refine ⟨L++[((n + 1:Nat):Int)],by simp [IH,QT],?_,fun d hd=>?_⟩
   ·rw[List.pairwise_append];refine⟨h2,List.pairwise_singleton _ _,fun a ha b hb=>?_⟩;rw[yU]at hb;have:=h3 a ha;omega
   ·rcases yu.1 hd with hd | hd
    ·have:=h3 d hd;omega
    ·rw[yU]at hd;omega
  ·exact⟨L,by simp,h2,fun d hd=>by have:=h3 d hd;omega⟩
theorem Jc {n:Nat}{xs bs:List ED}(h:rwL n xs bs):bs.map IH=xs.map IH:=by
 refine List.ext_getElem (by simp[h.1]) fun i h1 h2=>?_
 simp only[yc]at h1 h2;have:=h.2 i xs[i] bs[i] (yf h2) (yf h1);simp only[List.getElem_map,IH,this.1,this.2.1]
theorem init_no {l:List OF}{t c:Int}(h:(pP l t c).2=false):(pP l t c).1=Vl.zero:=by
 unfold pP at h ⊢;split at h
 ·rename_i hc;rw[if_pos hc];rfl
 ·cases h
theorem Ns (l:List OF)(i:Int)(rc:Bool)(id:Int)(p:MR):AD rc (QT l i rc id p)=true:=by
 by_cases h2:2<=p.flag%4
 ·have h1:¬ p.flag % 4=1:=by omega
  cases rc with
  |false=>simp[AD,QT,Vl.UA]
  |true =>
   cases h3:(pP l (SU l i p.ty) (p.flag / 4)).2 with
   |false=>simp[AD,QT,h1,h2,h3,init_no h3,Vl.UA]
   |true=>simp[AD,QT,h1,h2,h3]
 ·cases rc<;>simp[AD,QT,h2,Vl.UA]
theorem Kc {n:Nat}{rc:Bool}{a b:ED}(h:rwM n a b)(ha:AD rc a=true):AD rc b=true:=by
 obtain⟨h1,h2,h3,h4⟩:=h;rcases h4 with rfl|⟨_,_,h5,h6⟩
 ·exact ha
 ·simp only[AD,h3,h5,h6,Vl.UA]at ha ⊢;cases rc<;>cases hc:a.gB<;>simp[hc]at ha ⊢
theorem F4 {l:List OF}{i:Int}{rc:Bool}{ps:List MR}{n:Nat}{bs:List ED}(h:rwL n (cI l i rc ps) bs)(ua:rc=true\/bs≠[]):xI rc bs=true:=by
 obtain⟨L,h1,h2,h3⟩:=Q1 l i rc ps 12;have da:bs.length<=12:=by rw[<- h.1];exact gP l i rc ps 12
 have hents:NE 0 [] (bs.map IH)=true:=by
  rw[Jc h,show(cI l i rc ps).map IH=_ from h1];exact S7 L 0 [] (by omega) (fun d hd=>by have:=h3 d hd;omega) h2 (fun s hs=>by cases hs)
 have nb:bs.all (AD rc)=true:=ye.2 fun b hb=>by
  obtain⟨j,hj,rfl⟩:=Y0k hb;have hja:j<(cI l i rc ps).length:=by rw[h.1];exact hj
  have hm:=h.2 j _ _ (yf hja) (yf hj);obtain⟨id,p,_,_,_,_,he⟩:=aT 12 _ (yC hja);refine Kc hm ?_;rw[he];exact Ns l i rc id p
 have gc:rc=true\/0<bs.length:=ua.imp id fun h=>List.length_pos_iff.2 h
 simp only[xI,nb,hents,Bool.true_and,yg,Bool.or_eq_true,decide_eq_true_eq];exact⟨gc,by omega⟩
theorem Rz {l:List OF}{code:Int}:∀n k,0<=XJ l code n k->Q4 (UG l (XJ l code n k))=true
 |0,k,h=>by simp[XJ]at h
 |n+1,k,h=>by
  simp only[XJ]at h ⊢;split
  ·assumption
  ·rename_i hk;rw[if_neg hk]at h;exact Rz n (k+1) h
structure TypD (l:List OF)(i:Nat)(b:BC):Prop where
 good:bD b=true
 nm:b.named=true->b.name=GL (i:Int)
 uses:∀u∈b.dA,0<=u/\u<l.length
 key:b.kind=8->Q4 (UG l b.key)=true
theorem SN {n:Nat}{bs:List ED}(h:rwL n [] bs):bs=[]:=Y04 h.1.symm
theorem Q8 {l:List OF}(hl:oks l){i:Nat}(hi:i<l.length){rc:Bool}{ps:List MR}{bs:List ED}(h:rwL l.length (cI l (i:Int) rc ps) bs):∀u∈bs.map ED.ty,0<=u/\u<l.length:=fun u hu=>by
 obtain⟨b,hb,rfl⟩:=yD.1 hu;obtain⟨j,hj,rfl⟩:=Y0k hb;have hja:j<(cI l (i:Int) rc ps).length:=by rw[h.1];exact hj
 have hm:=h.2 j _ _ (yf hja) (yf hj);obtain⟨id,p,_,_,_,hp,he⟩:=aT 12 _ (yC hja);rcases hm.2.2.2 with h4|⟨h4,h5,_⟩
 ·rw[h4,he];simp only[OR,decide_eq_true_eq]at hp;exact⟨hp.2,(c9 hl (i:Int) p.ty (by omega)).2⟩
 ·exact⟨h4,h5⟩
theorem typ_d {l:List OF}(hl:oks l){i:Nat}(hi:i<l.length){b:BC}(h:rwT l.length (MH l (i:Int)) b):TypD l i b:=by
 obtain⟨bs,sd,rfl⟩:=h;have hx:=IK hl hi;obtain⟨xk,xa,xb,xc,_⟩:=I9 _ hx;have hl5:=hl.2.1;have hn:(l.length:Int)≠0:=by omega
 have fh:=M7 hx;have rb:eI (GL (i:Int))=true:=x9 ⟨i,by omega⟩;have hsy:IP (FL (TD l (i:Int)).a)=true:=by
  have:=Ov ⟨(TD l (i:Int)).a.toNat,by have:=xa.2;have:=xa.1;omega⟩
  rwa [show(((TD l (i:Int)).a.toNat:Nat):Int)=(TD l (i:Int)).a from by have:=xa.1;omega]at this
 have pr:0<=(TD l (i:Int)).c%l.length/\(TD l (i:Int)).c%l.length<l.length:=⟨Int.emod_nonneg _ hn,Y0h _ (by omega)⟩;unfold MH at sd ⊢;generalize TD l (i:Int)=x at *
 by_cases k1:x.kind=1
 ·simp only[k1]at sd ⊢;obtain rfl:=SN sd;exact⟨by simp[bD,EI,BC.left,BC.same,pE,BC.of,mD],fun h=>by simp[BC.named,BC.of]at h,fun u hu=>by simp[BC.dA,BC.of]at hu,fun h=>by simp[BC.of]at h⟩
 by_cases k2:x.kind=2
 ·simp only[k2]at sd ⊢;obtain rfl:=SN sd;have hlh:x.low<=x.high:=by
   simp only[OF.high];have:=Int.emod_nonneg x.b (show(6:Int)≠0 by decide);omega
  exact⟨by simp[bD,EI,BC.left,BC.same,pE,BC.of,mD,hlh],fun h=>by simp[BC.named,BC.of]at h,fun u hu=>by simp[BC.dA,BC.of]at hu,fun h=>by simp[BC.of]at h⟩
 by_cases k3:x.kind=3
 ·simp only[k3]at sd ⊢;obtain rfl:=SN sd;exact⟨by simp[bD,EI,BC.left,BC.same,pE,BC.of,mD];omega,fun h=>by simp[BC.named,BC.of]at h,fun u hu=>by simp[BC.dA,BC.of]at hu,fun h=>by simp[BC.of]at h⟩
 by_cases k4:x.kind=4
 ·simp only[k4]at sd ⊢;obtain rfl:=SN sd;exact⟨by simp[bD,EI,BC.left,BC.same,pE,BC.of,mD,rb,hsy],fun h=>by simp[BC.of],fun u hu=>by simp[BC.dA,BC.of]at hu,fun h=>by simp[BC.of]at h⟩
 by_cases k5:x.kind=5
 ·simp only[k5]at sd ⊢;have hg:=F4 sd (.inl rfl);have hu:=Q8 hl hi sd;exact⟨by simp[bD,EI,BC.left,BC.same,pE,BC.of,mD,rb,hg],fun h=>by simp[BC.of],fun u h=>hu u (by simpa [BC.dA,BC.of]using h),fun h=>by simp[BC.of]at h⟩
 by_cases k6:x.kind=6
 ·simp only [k6] at sd ⊢;by_cases he:(cI l (i:Int) false x.parts).isEmpty=true
  ·simp only[he,if_true]at sd ⊢;obtain rfl:=SN sd;exact⟨by simp[bD,EI,BC.left,BC.same,pE,BC.of,mD,rb,xI,NE],fun h=>by simp[BC.of],fun u hu=>by simp[BC.dA,BC.of]at hu,fun h=>by simp[BC.of]at h⟩
  ·simp only[he,if_false,yM]at sd ⊢;have ua:bs≠[]:=fun e=>by
    rw[e]at sd;have:=sd.1;simp only[List.length_nil]at this;rw[Y04 this]at he;simp at he
   have hg:=F4 sd (.inr ua);have hu:=Q8 hl hi sd;exact⟨by simp[bD,EI,BC.left,BC.same,pE,BC.of,mD,rb,hg],fun h=>by simp[BC.of],fun u h=>hu u (by simpa [BC.dA,BC.of]using h),fun h=>by simp[BC.of]at h⟩
 by_cases k7:x.kind=7
 ·simp only[k7]at sd ⊢;obtain rfl:=SN sd;exact⟨by simp[bD,EI,BC.left,BC.same,pE,BC.of,mD];omega,fun h=>by simp[BC.named,BC.of]at h,fun u hu=>by simp[BC.dA,BC.of]at hu;rw[hu];exact pr,fun h=>by simp[BC.of]at h⟩
 by_cases k8:x.kind=8
 ·simp only [k8] at sd ⊢;by_cases hc:mT l x.b<0
  ·simp only[if_pos hc]at sd ⊢;obtain rfl:=SN sd;exact⟨by simp[bD,EI,BC.left,BC.same,pE,BC.of,mD];omega,fun h=>by simp[BC.named,BC.of]at h,fun u hu=>by simp[BC.dA,BC.of]at hu;rw[hu];exact pr,fun h=>by simp[BC.of]at h⟩
  ·simp only [if_neg hc] at sd ⊢;obtain rfl:=SN sd;have fh:=pY hl x.b l.length 0;refine ⟨by simp [bD,EI,BC.left,BC.same,pE,BC.of,mD]; omega,fun h=>by simp [BC.named,BC.of] at h,fun u hu=>?_,fun h=>Rz l.length 0 (by simpa [mT] using hc)⟩;simp [BC.dA,BC.of] at hu;rcases hu with rfl | rfl
   ·exact⟨by omega,fh.2⟩
   ·exact pr
 have k9:x.kind=9:=by omega
 simp only[k9]at sd ⊢;obtain rfl:=SN sd;exact⟨by simp[bD,EI,BC.left,BC.same,pE,BC.of,mD],fun h=>by simp[BC.named,BC.of]at h,fun u hu=>by simp[BC.dA,BC.of]at hu;rw[hu];exact pr,fun h=>by simp[BC.of]at h⟩
theorem kdAt_nd (l:List OF){j:Nat}(hj:j<l.length):UG l (j:Int)=(TD l (j:Int)).kind:=by
 simp[UG,TD,yf hj]
theorem Tf (l:List OF){j:Nat}(hj:j<l.length):(MH l (j:Int)).kind=(if UG l (j:Int)=6/\(cI l (j:Int) false (TD l (j:Int)).parts).isEmpty=true then 5 else if UG l (j:Int)=8/\mT l (TD l (j:Int)).b<0 then 7 else if 1<=UG l (j:Int)/\UG l (j:Int)<=8 then UG l (j:Int)else 9):=by
 rw[kdAt_nd l hj];unfold MH;generalize TD l (j:Int)=x;simp only;split
 ·rename_i h;simp[h,BC.of]
 ·rename_i h;simp[h,BC.of]
 ·rename_i h;simp[h,BC.of]
 ·rename_i h;simp[h,BC.of]
 ·rename_i h;simp[h,BC.of]
 ·rename_i h;split
  ·rename_i h';simp[h,h',BC.of]
  ·rename_i h';simp[h,h',BC.of]
 ·rename_i h;simp[h,BC.of]
 ·rename_i h;split
  ·rename_i h';simp[h,h',BC.of]
  ·rename_i h';simp[h,h',BC.of]
 ·rename_i h1 h2 h3 h4 h5 h6 h7 h8;have e6:¬x.kind=6:=h6;have e8:¬x.kind=8:=h8;have hr:¬(1<=x.kind/\x.kind<=8):=fun⟨a,b⟩=>by
   have q1:¬x.kind=1:=h1;have q2:¬x.kind=2:=h2;have q3:¬x.kind=3:=h3;have q4:¬x.kind=4:=h4;have q5:¬x.kind=5:=h5;have q7:¬x.kind=7:=h7;omega
  simp[e6,e8,hr,BC.of]
theorem Eo {n:Nat}{l:List OF}{T:List BC}(h:rwS n (PE l) T):T.length=l.length:=by
 have:=h.1;simp[PE]at this;exact this.symm
theorem Wo {l:List OF}{T:List BC}(h:rwS l.length (PE l) T){i:Nat}(hi:i<T.length):rwT l.length (MH l (i:Int)) T[i]:=by
 have ee:i<l.length:=by rw[<- Eo h];exact hi
 exact h.2 i _ _ (by simp[PE,ee]) (yf hi)
theorem Lc {n:Nat}{a b:BC}(h:rwT n a b):b.kind=a.kind:=by
 obtain⟨bs,_,rfl⟩:=h;rfl
theorem QW {l:List BC}(h:∀i,(hi:i<l.length)->ZE l i l[i]=0):∀n i,bE l n i=0
 |0,i=>rfl
 |n+1,i=>by
  rw[bE];by_cases hi:i<l.length
  ·rw[yf hi];simp only[h i hi,if_true];exact QW h n (i+1)
  ·rw[Y08 (by omega)]
theorem Kd {l:List OF}(hl:oks l){T:List BC}(h:rwS l.length (PE l) T):valid T=0:=by
 have hl5:=hl.2.1;have da:=Eo h;unfold valid;rw[if_neg (by omega)];refine QW (fun i hi=>?_) _ _;have hd:∀j,(hj:j<T.length)->TypD l j T[j]:=fun j hj=>typ_d hl (by omega) (Wo h hj)
 obtain⟨hg,rb,hu,hk⟩:=hd i hi;unfold ZE;rw[if_neg (by rw[hg];decide)];rw[if_neg]
 ·rw [if_neg]
  ·rw [if_neg];rintro ⟨h8,hn⟩;have re:=hk h8;have huk:=hu T[i].key (by simp [BC.dA,h8]);have tr:T[i].key.toNat<T.length:=by omega
   apply hn;unfold tM;rw[yf tr];simp only;rw[Lc (Wo h tr),Tf l (by omega)];rw[show((T[i].key.toNat:Nat):Int)=T[i].key from by omega];simp only[Q4,decide_eq_true_eq]at re;rw[if_neg (by omega),if_neg (by omega),if_pos (by omega)];exact re
  ·intro hany;obtain⟨u,pd,ho⟩:=List.any_eq_true.1 hany;have:=hu u pd;simp only[IF,Bool.or_eq_true,decide_eq_true_eq]at ho;omega
 ·rintro ⟨hn,pd⟩;rw [yD] at pd;obtain ⟨b,hb,he⟩:=pd;obtain ⟨j,hj,rfl⟩:=Y0k hb;rw [yz] at hj;rw [List.getElem_take] at he;have hjT:j<T.length:=by omega
  obtain⟨hgj,hnmj,_,_⟩:=hd j hjT;rw[rb hn]at he;have hbn:T[j].named=true:=by
   cases hc:T[j].named with
   |true=>rfl
   |false =>
    have ee:=x9 ⟨i,by omega⟩;simp only at ee;rw[<- he]at ee;have gd:T[j].name=⟨#[]⟩:=by
     unfold bD at hgj;simp only[BC.named,Bool.or_eq_false_iff,decide_eq_false_iff_not]at hc;simp only[yg,decide_eq_true_eq]at hgj;have hs:=hgj.2.2;unfold BC.left at hs;obtain⟨⟨c4,c5⟩,c6⟩:=hc;simp only[c4,c5,c6,if_false]at hs;split at hs
     ·simp only[BC.same,pE,yg,decide_eq_true_eq]at hs;exact of_decide_eq_true hs.1.1.1.1.1.1.1.1.2
     ·split at hs
      ·simp only[BC.same,pE,yg,decide_eq_true_eq]at hs;exact of_decide_eq_true hs.1.1.1.1.1.1.1.1.2
      ·split at hs
       ·simp only[BC.same,pE,yg,decide_eq_true_eq]at hs;exact of_decide_eq_true hs.1.1.1.1.1.1.1.1.2
       ·split at hs
        ·simp only[BC.same,pE,yg,decide_eq_true_eq]at hs;exact of_decide_eq_true hs.1.1.1.1.1.1.1.1.2
        ·split at hs
         ·simp only[BC.same,pE,yg,decide_eq_true_eq]at hs;exact of_decide_eq_true hs.1.1.1.1.1.1.1.1.2
         ·simp only[BC.same,pE,yg,decide_eq_true_eq]at hs;exact of_decide_eq_true hs.1.1.1.1.1.1.1.1.2
    rw[gd]at ee;exact absurd ee (by decide)
  have:=Wf ⟨j,by omega⟩ ⟨i,by omega⟩ (by simp only;rw[<- hnmj hbn,he]);have:=congrArg Fin.val this;simp only at this;omega
theorem Ho (l:List OF)(i:Int):(MH l i).mn=(MH l i).qA.isEmpty:=by
 unfold MH;generalize TD l i=x;simp only;split
 all_goals first|rfl|skip
 ·split
  ·rfl
  ·rename_i h;simp only[BC.of];simpa using h
 ·split<;>rfl
theorem M8 (l:List OF):rwS l.length (PE l) (PE l):=by
 refine⟨rfl,fun i a b ha hb=>?_⟩;rw[ha]at hb;injection hb with hb;subst hb;have hm:a.mn=a.qA.isEmpty:=by
  obtain⟨hi,rfl⟩:=yn.1 ha;simp only[PE,List.getElem_map,List.getElem_range];exact Ho l _
 exact⟨a.qA,N8 _ _,by rw[<- hm]⟩
theorem Da {l:List OF}{L:List (List AV)}{s:LC}(h:eL (PE l) L s){t N c:Nat}(hm:s.mem t N=some (qD L)):AV.lA s (.ref t N 10 0 L.length c)=.sl false ((PE l).map GC):=by
 have hL:(L.map fun c=>c.map (AV.xA s))=(PE l).map GC:=by
  refine List.ext_getElem (by simp[h.1]) fun i h1 h2=>?_
  have hi:i<(PE l).length:=by simpa using h2
  have hiL:i<L.length:=by simpa using h1
  obtain⟨m,g1,g2⟩:=h.2 i _ _ (yf hi) (yf hiL);simp only[List.getElem_map];rw[g1];have hmn:(PE l)[i].mn=(PE l)[i].qA.isEmpty:=by
   simp only[PE,List.getElem_map,List.getElem_range];exact Ho l _
  have hc:AV.xA s m=.sl (PE l)[i].mn ((PE l)[i].qA.map rD):=by
   rw[hmn];rcases g2 with⟨e,rfl⟩|⟨M,ua,_,rfl,hM⟩
   ·rw[e];rfl
   ·have dr:(PE l)[i].qA.isEmpty=false:=by simpa using ua
    have:=AE (sz:=13) (dG (PE l)[i].qA) (D4 (PE l)[i].qA);simp only[yc]at this;simp only[AV.xA,hM,J,this,dr]
  rw[<- typL_C];simp only[iI,ym,yQ,hc];rfl
 rw[frz_row (h.toR 0).els hm (by rw[hL];simp[GC,AV.tA]),hL]
theorem Li {dn:Bool}{l:List OF}(hx:∀x∈l,x.ok):(oks l/\BD 11 [.agg (TG dn l)] (.fA [.agg [.sl false ((PE l).map GC)],.bool true]))\/(¬oks l/\BD 11 [.agg (TG dn l)] (.fA [.agg [.sl true []],.bool false])):=by
 have fg:wI.res=[.cell 2 true 1,.tmp 3]:=rfl;by_cases hl:1<=l.length/\l.length<=5
 ·left;refine ⟨⟨hl.1,hl.2,hx⟩,?_⟩;refine tD (c:=wI) rfl rfl ?_;refine of_run (dn:=dn) ⟨hl.1,hl.2,hx⟩ _ rfl (fun t n row h=>by cases h) (fun t n row _ h=>by cases h) ?_ ?_ ?_ _ (fun s' h=>?_)
  ·intro t;rcases t with _ | t
   ·exact NZ (fun c hc=>by simp only[TG,yU]at hc;subst hc;exact pT rfl)
   ·exact fun _ _ _=>rfl
  ·exact fun t _ _ _=>rfl
  ·exact fun t=>kW _
  ·obtain ⟨hc,e2,e3,lt,N,L,h2,hN,ba,wo,hL,hT⟩:=h;have g2:=Da hT (c:=l.length) wo;rw [hL] at g2;have oq:(s'.env 2).v=.ptr 2 1 0:=e2;have tg:s'.mem 2 1=some [⟨.ref 168 N 10 0 l.length l.length,.no⟩]:=h2;have f1:AV.FA s' (.agg [.ref 168 N 10 0 l.length l.length])=.agg [.sl false ((PE l).map GC)]:=by simp only [AV.FA,ym,yQ,g2]
   have f2:AV.FA s' (.bool true)=.bool true:=rfl;simp[JJ,fg,zW,oq,e3,tg,eD,f1,f2,TZ,AV.free,AV.tA,KY,-AV.FA,-AV.lA]
 ·right;refine⟨fun h=>hl ⟨h.1,h.2.1⟩,?_⟩;refine tD (c:=wI) rfl rfl ?_;refine of_bad hl _ rfl (fun t n row h=>by cases h) _ (fun s' hc e2 e3 h2=>?_);have oq:(s'.env 2).v=.ptr 2 1 0:=e2;have tg:s'.mem 2 1=some [⟨.sl true [],.no⟩]:=h2;simp[JJ,fg,zW,oq,e3,tg,eD,TZ,AV.free,AV.tA,KY]
end Go.Proofs.YtpmklcpajcfpjaaGreatDoor
