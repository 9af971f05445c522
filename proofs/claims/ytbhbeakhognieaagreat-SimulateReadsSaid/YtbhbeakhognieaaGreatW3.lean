/- A part of the proof. -/
import Derived.Test.YtbhbeakhognieaaGreatW2
set_option linter.all false
set_option maxRecDepth 100000
set_option maxHeartbeats 8000000
open Option renaming bind_some → J, map_some → yr
open List renaming range_succ → y0, map_map → y3
open Int renaming toNat_lt → y4
namespace Go.Proofs.YtbhbeakhognieaaGreat
open Go
theorem rread_run (w r:FI) {x y:pA} {wt rt:Int} (h0:0<=wt) (gx:w.types[wt.toNat]?=some x) (h1:0<=rt) (gy:r.types[rt.toNat]?=some y) (v:Vl) (B:Nat) (f:Int->Vl->Int->Option Vl) (pay:Int->Vl->ByteArray) (ad:y.syms.length<=9223372036854775807) (lg:v.keys.length<=1000000) (wd:v.items.length<=1000000)
  (HK:x.kind=y.kind->x.kind≠5->x.kind≠6->∀ u∈v.keys,RdP w r B x.key u y.key (f x.key u y.key)) (HI:x.kind=y.kind->x.kind≠5->x.kind≠6->∀ u∈v.items,RdP w r B x.elem u y.elem (f x.elem u y.elem))
  (pb:Bool) (p:List Int) (pd:p.length + (B + 1)<=1000000)
  (HU:x.kind=y.kind->x.kind=6->∃ (qb:Bool) (q:List Int),gA 99 [.agg (GA w),.agg (eA x),.agg (fA v),.agg (GA r),.agg (eA y),.sl pb (p.map CD)] (.agg (aB (GR pay f x v y) qb q)))
  (HR:x.kind=y.kind->x.kind=5->∃ (qb:Bool) (q:List Int),gA 100 [.agg (GA w),.agg (eA x),.agg (fA v),.agg (GA r),.agg (eA y),.sl pb (p.map CD)] (.agg (aB (aL pay f x v y) qb q)))
  (k:Ex->aA->Option RV) (rv:RV) (hk:∀ e s',ResI (rR pay f x v y) e s'->k e s'=some rv) :
  CA.code.run (dF jA tA) (RJ jA tA) (aA.init [.agg (GA w),.int .i64 wt,.agg (fA v),.agg (GA r),.int .i64 rt,.sl pb (p.map CD)] none) k=some rv:=by
 have g1:(w.types.map eA)[wt.toNat]?=some (eA x):=by simp [gx]
 have g2:(r.types.map eA)[rt.toNat]?=some (eA y):=by simp [gy]
 have ii:=xT pb p (by omega);have ko:=rsym_ev y v.id ad;simp only [eA] at g1 g2;simp only [gA,aB] at ii;simp only [gA,qZ,eA] at ko;unfold rR at hk;by_cases c0:x.kind=y.kind
 case neg =>
  rw [if_pos c0] at hk;simp [CA,-J,-y4,-y3,y0,GA,qA v,h0,h1,g1,g2,c0,ii];exact hk _ _ ⟨rfl,1,false,p,by simp,by simp [aB]⟩
 rw [if_neg (by simp [c0])] at hk;have ud:y.kind=x.kind:=c0.symm;by_cases c2:x.kind=2/\(v.i<y.low\/y.high<v.i)
 ·rw [if_pos c2] at hk;obtain ⟨k2,c2⟩:=c2;have hb:(decide (v.i<y.low)=true)\/(decide (v.i<y.low)=false/\decide (y.high<v.i)=true):=by
   by_cases q:v.i<y.low
   ·left; simpa using q
   ·right;rcases c2 with c2 | c2
    ·exact absurd c2 q
    ·simp [c2]; omega
  rcases hb with hb | ⟨hb,xw⟩
  ·have q:v.i<y.low:=by simpa using hb
   simp [CA,-J,-y4,-y3,y0,GA,qA v,h0,h1,g1,g2,ud,k2,q,ii];exact hk _ _ ⟨rfl,1,false,p,by simp,by simp [aB]⟩
  ·have q:¬ v.i<y.low:=by simpa using hb
   have q2:y.high<v.i:=by simpa using xw
   simp [CA,-J,-y4,-y3,y0,GA,qA v,h0,h1,g1,g2,ud,k2,q,q2,ii];exact hk _ _ ⟨rfl,1,false,p,by simp,by simp [aB]⟩
 rw [if_neg c2] at hk;by_cases c3:x.kind=3/\y.max<v.s.size
 ·rw [if_pos c3] at hk;obtain ⟨k3,q⟩:=c3;simp [CA,-J,-y4,-y3,y0,GA,qA v,h0,h1,g1,g2,ud,k3,q,ii];exact hk _ _ ⟨rfl,1,false,p,by simp,by simp [aB]⟩
 rw [if_neg c3] at hk;by_cases c4:x.kind=4/\ZF y.syms v.id<0/\y.opn=false
 ·rw [if_pos c4] at hk;obtain ⟨k4,q,fb⟩:=c4;have q':¬ 0<=ZF y.syms v.id:=by omega
  rw [fb] at g2 ko;rw [ud,k4] at g2 ko;simp [CA,-J,-y4,-y3,y0,GA,qA v,h0,h1,g1,g2,ud,k4,q',ii,ko];exact hk _ _ ⟨rfl,1,false,p,by simp,by simp [aB]⟩
 rw [if_neg c4] at hk;by_cases c7:(x.kind=7\/x.kind=8)/\y.max<v.items.length
 ·rw [if_pos c7] at hk;obtain ⟨k7 | k8,q⟩:=c7
  ·simp [CA,-J,-y4,-y3,y0,GA,qA v,h0,h1,g1,g2,ud,k7,q,ii];exact hk _ _ ⟨rfl,1,false,p,by simp,by simp [aB]⟩
  ·simp [CA,-J,-y4,-y3,y0,GA,qA v,h0,h1,g1,g2,ud,k8,q,ii];exact hk _ _ ⟨rfl,1,false,p,by simp,by simp [aB]⟩
 rw [if_neg c7] at hk;by_cases k6:x.kind=6
 ·rw [if_pos k6] at hk;obtain ⟨qb,q,hu⟩:=HU c0 k6;simp only [gA,GA,eA,qA v] at hu;rw [ud,k6] at hu g2;rw [k6] at g1;cases ho:GR pay f x v y with
  | none =>
   rw [ho] at hu;simp only [aB] at hu;simp [CA,-J,-y4,-y3,y0,GA,qA v,h0,h1,g1,g2,hu];exact hk _ _ ⟨rfl,1,qb,q,by simp,by simp [ho,aB]⟩
  | some u =>
   rw [ho] at hu;simp only [aB] at hu;simp [CA,-J,-y4,-y3,y0,GA,qA v,h0,h1,g1,g2,hu];exact hk _ _ ⟨rfl,1,qb,q,by simp,by simp [ho,aB]⟩
 rw [if_neg k6] at hk;by_cases k5:x.kind=5
 ·rw [if_pos k5] at hk;obtain ⟨qb,q,hu⟩:=HR c0 k5;simp only [gA,GA,eA,qA v] at hu;rw [ud,k5] at hu g2;rw [k5] at g1;cases ho:aL pay f x v y with
  | none =>
   rw [ho] at hu;simp only [aB] at hu;simp [CA,-J,-y4,-y3,y0,GA,qA v,h0,h1,g1,g2,hu];exact hk _ _ ⟨rfl,1,qb,q,by simp,by simp [ho,aB]⟩
  | some u =>
   rw [ho] at hu;simp only [aB] at hu;simp [CA,-J,-y4,-y3,y0,GA,qA v,h0,h1,g1,g2,hu];exact hk _ _ ⟨rfl,1,qb,q,by simp,by simp [ho,aB]⟩
 rw [if_neg k5] at hk;have HK':=HK c0 k5 k6;have HI':=HI c0 k5 k6;have bad:∀ s':aA,((rC (fun k=>f x.key k y.key) v.keys).bind fun ks=>(rC (fun u=>f x.elem u y.elem) v.items).map fun xs=>Vl.mk v.kind v.b v.i v.s v.id (decide (ks=[])) ks (decide (xs=[])) xs v.rn v.rest)=none->fZ s'->k .ret s'=some rv:=fun s' h1 h2=>hk _ _ ⟨rfl,by rw [h1]; exact h2⟩
 have ju:x.kind=2\/x.kind=3\/x.kind=4\/x.kind=7\/x.kind=8\/(x.kind≠2/\x.kind≠3/\x.kind≠4/\x.kind≠7/\x.kind≠8):=by omega
 rcases ju with k2 | k3 | k4 | k7 | k8 | ⟨n2,n3,n4,n7,n8⟩
 ·have q1:¬ v.i<y.low:=fun q=>c2 ⟨k2,.inl q⟩
  have q2:¬ y.high<v.i:=fun q=>c2 ⟨k2,.inr q⟩
  simp [CA,-J,-y4,-y3,y0,GA,qA v,h0,h1,g1,g2,ud,k2,q1,q2];refine wO w r x y v pb p B pd lg (fun u=>f x.key u y.key) HK' _ ?_ ?_ ?_ _ (fun s' ks kn ka fe hI hA nk=>?_) fun s' nb hb=>?_
  ·exact ⟨by simp,⟨1,by simp,by simp⟩,⟨1,by simp,by simp [OA]⟩,⟨1,by simp,by simp⟩,⟨1,_,by simp,(by simp; rfl),rfl⟩,⟨2,by simp,by simp [sA,ud,k2]⟩,⟨2,by simp,by simp [sA,ud,k2]⟩⟩
  ·simp
  ·exact ⟨_,(by simp; rfl),by simp [JI]⟩
  ·obtain ⟨wj,ld,mi⟩:=nk;simp [-J,-y4,-y3,y0];refine rM kn ks w r x y v pb p B pd wd (fun u=>f x.elem u y.elem) HI' _ ?_ ?_ ?_ _ (fun s2 xs xn xa ed wo oq ah=>?_) fun s2 nb hb=>?_
   ·obtain ⟨e5,⟨n6,e6,m6⟩,⟨kr,e8,m8⟩,⟨n9,e9,m9⟩,⟨mc,R,e12,mb,hR⟩,⟨te,wb,sb⟩,⟨uj,jc,eh⟩⟩:=hI;exact ⟨by simp [e5],⟨n6,by simp [e6],by simp [m6]⟩,⟨kr,by simp [e8],by simp [m8]⟩,⟨n9,by simp [e9],by simp [m9]⟩,⟨mc,R,by simp [e12],by simp [mb],hR⟩,⟨te,by simp [wb],by simp [sb]⟩,⟨uj,by simp [jc],by simp [eh]⟩⟩
   ·simp
   ·exact ⟨wj,ka,by simp [ld],by simp [mi]⟩
   ·obtain ⟨jr,k0',dh,me⟩:=ah;obtain ⟨mc,R,e12,mb,hR⟩:=wo.b12;obtain ⟨r0,r1,r2,r3,r4,r5,r6,r7,r8,r9,rfl⟩:∃ r0 r1 r2 r3 r4 r5 r6 r7 r8 r9,R=[r0,r1,r2,r3,r4,r5,r6,r7,r8,r9]:=by
     match R,hR with
     | [r0,r1,r2,r3,r4,r5,r6,r7,r8,r9],_=>exact ⟨_,_,_,_,_,_,_,_,_,_,rfl⟩
    have dg:=WK v.kind v.b v.i v.s v.id kn ks xn xs v.rn v.rest;simp only [JI] at me;simp only [gA] at dg;have e1:decide (ks=[])=kn:=by rcases hA with ⟨rfl,_,rfl⟩ | ⟨rfl,ma,_⟩ <;> simp [*]
    have e2:decide (xs=[])=xn:=by rcases oq with ⟨rfl,_,rfl⟩ | ⟨rfl,ma,_⟩ <;> simp [*]
    rw [fe,ed] at hk;simp only [J,yr,e1,e2] at hk;simp [-J,-y4,-y3,y0,dh,me,e12,mb,dg];exact hk _ _ ⟨rfl,mc,true,[],by simp [e12],by simp [aB,Vl.kind,Vl.b,Vl.i,Vl.s,Vl.id,Vl.kn,Vl.keys,Vl.xn,Vl.items,Vl.rn,Vl.rest]⟩
   ·simp [-J,-y4,-y3,y0];refine bad _ ?_ hb;rw [fe,nb];rfl
  ·simp [-J,-y4,-y3,y0];refine bad _ ?_ hb;rw [nb];rfl
 ·have q1:¬ y.max<v.s.size:=fun q=>c3 ⟨k3,q⟩
  simp [CA,-J,-y4,-y3,y0,GA,qA v,h0,h1,g1,g2,ud,k3,q1];refine wO w r x y v pb p B pd lg (fun u=>f x.key u y.key) HK' _ ?_ ?_ ?_ _ (fun s' ks kn ka fe hI hA nk=>?_) fun s' nb hb=>?_
  ·exact ⟨by simp,⟨1,by simp,by simp⟩,⟨1,by simp,by simp [OA]⟩,⟨1,by simp,by simp⟩,⟨1,_,by simp,(by simp; rfl),rfl⟩,⟨2,by simp,by simp [sA,ud,k3]⟩,⟨2,by simp,by simp [sA,ud,k3]⟩⟩
  ·simp
  ·exact ⟨_,(by simp; rfl),by simp [JI]⟩
  ·obtain ⟨wj,ld,mi⟩:=nk;simp [-J,-y4,-y3,y0];refine rM kn ks w r x y v pb p B pd wd (fun u=>f x.elem u y.elem) HI' _ ?_ ?_ ?_ _ (fun s2 xs xn xa ed wo oq ah=>?_) fun s2 nb hb=>?_
   ·obtain ⟨e5,⟨n6,e6,m6⟩,⟨kr,e8,m8⟩,⟨n9,e9,m9⟩,⟨mc,R,e12,mb,hR⟩,⟨te,wb,sb⟩,⟨uj,jc,eh⟩⟩:=hI;exact ⟨by simp [e5],⟨n6,by simp [e6],by simp [m6]⟩,⟨kr,by simp [e8],by simp [m8]⟩,⟨n9,by simp [e9],by simp [m9]⟩,⟨mc,R,by simp [e12],by simp [mb],hR⟩,⟨te,by simp [wb],by simp [sb]⟩,⟨uj,by simp [jc],by simp [eh]⟩⟩
   ·simp
   ·exact ⟨wj,ka,by simp [ld],by simp [mi]⟩
   ·obtain ⟨jr,k0',dh,me⟩:=ah;obtain ⟨mc,R,e12,mb,hR⟩:=wo.b12;obtain ⟨r0,r1,r2,r3,r4,r5,r6,r7,r8,r9,rfl⟩:∃ r0 r1 r2 r3 r4 r5 r6 r7 r8 r9,R=[r0,r1,r2,r3,r4,r5,r6,r7,r8,r9]:=by
     match R,hR with
     | [r0,r1,r2,r3,r4,r5,r6,r7,r8,r9],_=>exact ⟨_,_,_,_,_,_,_,_,_,_,rfl⟩
    have dg:=WK v.kind v.b v.i v.s v.id kn ks xn xs v.rn v.rest;simp only [JI] at me;simp only [gA] at dg;have e1:decide (ks=[])=kn:=by rcases hA with ⟨rfl,_,rfl⟩ | ⟨rfl,ma,_⟩ <;> simp [*]
    have e2:decide (xs=[])=xn:=by rcases oq with ⟨rfl,_,rfl⟩ | ⟨rfl,ma,_⟩ <;> simp [*]
    rw [fe,ed] at hk;simp only [J,yr,e1,e2] at hk;simp [-J,-y4,-y3,y0,dh,me,e12,mb,dg];exact hk _ _ ⟨rfl,mc,true,[],by simp [e12],by simp [aB,Vl.kind,Vl.b,Vl.i,Vl.s,Vl.id,Vl.kn,Vl.keys,Vl.xn,Vl.items,Vl.rn,Vl.rest]⟩
   ·simp [-J,-y4,-y3,y0];refine bad _ ?_ hb;rw [fe,nb];rfl
  ·simp [-J,-y4,-y3,y0];refine bad _ ?_ hb;rw [nb];rfl
 ·by_cases q1:0<=ZF y.syms v.id
  ·rw [ud,k4] at g2 ko;simp [CA,-J,-y4,-y3,y0,GA,qA v,h0,h1,g1,g2,ud,k4,q1,ko];refine wO w r x y v pb p B pd lg (fun u=>f x.key u y.key) HK' _ ?_ ?_ ?_ _ (fun s' ks kn ka fe hI hA nk=>?_) fun s' nb hb=>?_
   ·exact ⟨by simp,⟨1,by simp,by simp⟩,⟨1,by simp,by simp [OA]⟩,⟨1,by simp,by simp⟩,⟨1,_,by simp,(by simp; rfl),rfl⟩,⟨2,by simp,by simp [sA,ud,k4]⟩,⟨2,by simp,by simp [sA,ud,k4]⟩⟩
   ·simp
   ·exact ⟨_,(by simp; rfl),by simp [JI]⟩
   ·obtain ⟨wj,ld,mi⟩:=nk;simp [-J,-y4,-y3,y0];refine rM kn ks w r x y v pb p B pd wd (fun u=>f x.elem u y.elem) HI' _ ?_ ?_ ?_ _ (fun s2 xs xn xa ed wo oq ah=>?_) fun s2 nb hb=>?_
    ·obtain ⟨e5,⟨n6,e6,m6⟩,⟨kr,e8,m8⟩,⟨n9,e9,m9⟩,⟨mc,R,e12,mb,hR⟩,⟨te,wb,sb⟩,⟨uj,jc,eh⟩⟩:=hI;exact ⟨by simp [e5],⟨n6,by simp [e6],by simp [m6]⟩,⟨kr,by simp [e8],by simp [m8]⟩,⟨n9,by simp [e9],by simp [m9]⟩,⟨mc,R,by simp [e12],by simp [mb],hR⟩,⟨te,by simp [wb],by simp [sb]⟩,⟨uj,by simp [jc],by simp [eh]⟩⟩
    ·simp
    ·exact ⟨wj,ka,by simp [ld],by simp [mi]⟩
    ·obtain ⟨jr,k0',dh,me⟩:=ah;obtain ⟨mc,R,e12,mb,hR⟩:=wo.b12;obtain ⟨r0,r1,r2,r3,r4,r5,r6,r7,r8,r9,rfl⟩:∃ r0 r1 r2 r3 r4 r5 r6 r7 r8 r9,R=[r0,r1,r2,r3,r4,r5,r6,r7,r8,r9]:=by
      match R,hR with
      | [r0,r1,r2,r3,r4,r5,r6,r7,r8,r9],_=>exact ⟨_,_,_,_,_,_,_,_,_,_,rfl⟩
     have dg:=WK v.kind v.b v.i v.s v.id kn ks xn xs v.rn v.rest;simp only [JI] at me;simp only [gA] at dg;have e1:decide (ks=[])=kn:=by rcases hA with ⟨rfl,_,rfl⟩ | ⟨rfl,ma,_⟩ <;> simp [*]
     have e2:decide (xs=[])=xn:=by rcases oq with ⟨rfl,_,rfl⟩ | ⟨rfl,ma,_⟩ <;> simp [*]
     rw [fe,ed] at hk;simp only [J,yr,e1,e2] at hk;simp [-J,-y4,-y3,y0,dh,me,e12,mb,dg];exact hk _ _ ⟨rfl,mc,true,[],by simp [e12],by simp [aB,Vl.kind,Vl.b,Vl.i,Vl.s,Vl.id,Vl.kn,Vl.keys,Vl.xn,Vl.items,Vl.rn,Vl.rest]⟩
    ·simp [-J,-y4,-y3,y0];refine bad _ ?_ hb;rw [fe,nb];rfl
   ·simp [-J,-y4,-y3,y0];refine bad _ ?_ hb;rw [nb];rfl
  ·cases fb:y.opn with
   | false=>exact absurd ⟨k4,by omega,fb⟩ c4
   | true =>
    rw [fb] at g2 ko;rw [ud,k4] at g2 ko;simp [CA,-J,-y4,-y3,y0,GA,qA v,h0,h1,g1,g2,ud,k4,q1,ko];refine wO w r x y v pb p B pd lg (fun u=>f x.key u y.key) HK' _ ?_ ?_ ?_ _ (fun s' ks kn ka fe hI hA nk=>?_) fun s' nb hb=>?_
    ·exact ⟨by simp,⟨1,by simp,by simp⟩,⟨1,by simp,by simp [OA]⟩,⟨1,by simp,by simp⟩,⟨1,_,by simp,(by simp; rfl),rfl⟩,⟨2,by simp,by simp [sA,ud,k4,fb]⟩,⟨2,by simp,by simp [sA,ud,k4,fb]⟩⟩
    ·simp
    ·exact ⟨_,(by simp; rfl),by simp [JI]⟩
    ·obtain ⟨wj,ld,mi⟩:=nk;simp [-J,-y4,-y3,y0];refine rM kn ks w r x y v pb p B pd wd (fun u=>f x.elem u y.elem) HI' _ ?_ ?_ ?_ _ (fun s2 xs xn xa ed wo oq ah=>?_) fun s2 nb hb=>?_
     ·obtain ⟨e5,⟨n6,e6,m6⟩,⟨kr,e8,m8⟩,⟨n9,e9,m9⟩,⟨mc,R,e12,mb,hR⟩,⟨te,wb,sb⟩,⟨uj,jc,eh⟩⟩:=hI;exact ⟨by simp [e5],⟨n6,by simp [e6],by simp [m6]⟩,⟨kr,by simp [e8],by simp [m8]⟩,⟨n9,by simp [e9],by simp [m9]⟩,⟨mc,R,by simp [e12],by simp [mb],hR⟩,⟨te,by simp [wb],by simp [sb]⟩,⟨uj,by simp [jc],by simp [eh]⟩⟩
     ·simp
     ·exact ⟨wj,ka,by simp [ld],by simp [mi]⟩
     ·obtain ⟨jr,k0',dh,me⟩:=ah;obtain ⟨mc,R,e12,mb,hR⟩:=wo.b12;obtain ⟨r0,r1,r2,r3,r4,r5,r6,r7,r8,r9,rfl⟩:∃ r0 r1 r2 r3 r4 r5 r6 r7 r8 r9,R=[r0,r1,r2,r3,r4,r5,r6,r7,r8,r9]:=by
       match R,hR with
       | [r0,r1,r2,r3,r4,r5,r6,r7,r8,r9],_=>exact ⟨_,_,_,_,_,_,_,_,_,_,rfl⟩
      have dg:=WK v.kind v.b v.i v.s v.id kn ks xn xs v.rn v.rest;simp only [JI] at me;simp only [gA] at dg;have e1:decide (ks=[])=kn:=by rcases hA with ⟨rfl,_,rfl⟩ | ⟨rfl,ma,_⟩ <;> simp [*]
      have e2:decide (xs=[])=xn:=by rcases oq with ⟨rfl,_,rfl⟩ | ⟨rfl,ma,_⟩ <;> simp [*]
      rw [fe,ed] at hk;simp only [J,yr,e1,e2] at hk;simp [-J,-y4,-y3,y0,dh,me,e12,mb,dg];exact hk _ _ ⟨rfl,mc,true,[],by simp [e12],by simp [aB,Vl.kind,Vl.b,Vl.i,Vl.s,Vl.id,Vl.kn,Vl.keys,Vl.xn,Vl.items,Vl.rn,Vl.rest]⟩
     ·simp [-J,-y4,-y3,y0];refine bad _ ?_ hb;rw [fe,nb];rfl
    ·simp [-J,-y4,-y3,y0];refine bad _ ?_ hb;rw [nb];rfl
 ·have q1:¬ y.max<v.items.length:=fun q=>c7 ⟨.inl k7,q⟩
  simp [CA,-J,-y4,-y3,y0,GA,qA v,h0,h1,g1,g2,ud,k7,q1];refine wO w r x y v pb p B pd lg (fun u=>f x.key u y.key) HK' _ ?_ ?_ ?_ _ (fun s' ks kn ka fe hI hA nk=>?_) fun s' nb hb=>?_
  ·exact ⟨by simp,⟨1,by simp,by simp⟩,⟨1,by simp,by simp [OA]⟩,⟨1,by simp,by simp⟩,⟨1,_,by simp,(by simp; rfl),rfl⟩,⟨2,by simp,by simp [sA,ud,k7]⟩,⟨2,by simp,by simp [sA,ud,k7]⟩⟩
  ·simp
  ·exact ⟨_,(by simp; rfl),by simp [JI]⟩
  ·obtain ⟨wj,ld,mi⟩:=nk;simp [-J,-y4,-y3,y0];refine rM kn ks w r x y v pb p B pd wd (fun u=>f x.elem u y.elem) HI' _ ?_ ?_ ?_ _ (fun s2 xs xn xa ed wo oq ah=>?_) fun s2 nb hb=>?_
   ·obtain ⟨e5,⟨n6,e6,m6⟩,⟨kr,e8,m8⟩,⟨n9,e9,m9⟩,⟨mc,R,e12,mb,hR⟩,⟨te,wb,sb⟩,⟨uj,jc,eh⟩⟩:=hI;exact ⟨by simp [e5],⟨n6,by simp [e6],by simp [m6]⟩,⟨kr,by simp [e8],by simp [m8]⟩,⟨n9,by simp [e9],by simp [m9]⟩,⟨mc,R,by simp [e12],by simp [mb],hR⟩,⟨te,by simp [wb],by simp [sb]⟩,⟨uj,by simp [jc],by simp [eh]⟩⟩
   ·simp
   ·exact ⟨wj,ka,by simp [ld],by simp [mi]⟩
   ·obtain ⟨jr,k0',dh,me⟩:=ah;obtain ⟨mc,R,e12,mb,hR⟩:=wo.b12;obtain ⟨r0,r1,r2,r3,r4,r5,r6,r7,r8,r9,rfl⟩:∃ r0 r1 r2 r3 r4 r5 r6 r7 r8 r9,R=[r0,r1,r2,r3,r4,r5,r6,r7,r8,r9]:=by
     match R,hR with
     | [r0,r1,r2,r3,r4,r5,r6,r7,r8,r9],_=>exact ⟨_,_,_,_,_,_,_,_,_,_,rfl⟩
    have dg:=WK v.kind v.b v.i v.s v.id kn ks xn xs v.rn v.rest;simp only [JI] at me;simp only [gA] at dg;have e1:decide (ks=[])=kn:=by rcases hA with ⟨rfl,_,rfl⟩ | ⟨rfl,ma,_⟩ <;> simp [*]
    have e2:decide (xs=[])=xn:=by rcases oq with ⟨rfl,_,rfl⟩ | ⟨rfl,ma,_⟩ <;> simp [*]
    rw [fe,ed] at hk;simp only [J,yr,e1,e2] at hk;simp [-J,-y4,-y3,y0,dh,me,e12,mb,dg];exact hk _ _ ⟨rfl,mc,true,[],by simp [e12],by simp [aB,Vl.kind,Vl.b,Vl.i,Vl.s,Vl.id,Vl.kn,Vl.keys,Vl.xn,Vl.items,Vl.rn,Vl.rest]⟩
   ·simp [-J,-y4,-y3,y0];refine bad _ ?_ hb;rw [fe,nb];rfl
  ·simp [-J,-y4,-y3,y0];refine bad _ ?_ hb;rw [nb];rfl
 ·have q1:¬ y.max<v.items.length:=fun q=>c7 ⟨.inr k8,q⟩
  simp [CA,-J,-y4,-y3,y0,GA,qA v,h0,h1,g1,g2,ud,k8,q1];refine wO w r x y v pb p B pd lg (fun u=>f x.key u y.key) HK' _ ?_ ?_ ?_ _ (fun s' ks kn ka fe hI hA nk=>?_) fun s' nb hb=>?_
  ·exact ⟨by simp,⟨1,by simp,by simp⟩,⟨1,by simp,by simp [OA]⟩,⟨1,by simp,by simp⟩,⟨1,_,by simp,(by simp; rfl),rfl⟩,⟨2,by simp,by simp [sA,ud,k8]⟩,⟨2,by simp,by simp [sA,ud,k8]⟩⟩
  ·simp
  ·exact ⟨_,(by simp; rfl),by simp [JI]⟩
  ·obtain ⟨wj,ld,mi⟩:=nk;simp [-J,-y4,-y3,y0];refine rM kn ks w r x y v pb p B pd wd (fun u=>f x.elem u y.elem) HI' _ ?_ ?_ ?_ _ (fun s2 xs xn xa ed wo oq ah=>?_) fun s2 nb hb=>?_
   ·obtain ⟨e5,⟨n6,e6,m6⟩,⟨kr,e8,m8⟩,⟨n9,e9,m9⟩,⟨mc,R,e12,mb,hR⟩,⟨te,wb,sb⟩,⟨uj,jc,eh⟩⟩:=hI;exact ⟨by simp [e5],⟨n6,by simp [e6],by simp [m6]⟩,⟨kr,by simp [e8],by simp [m8]⟩,⟨n9,by simp [e9],by simp [m9]⟩,⟨mc,R,by simp [e12],by simp [mb],hR⟩,⟨te,by simp [wb],by simp [sb]⟩,⟨uj,by simp [jc],by simp [eh]⟩⟩
   ·simp
   ·exact ⟨wj,ka,by simp [ld],by simp [mi]⟩
   ·obtain ⟨jr,k0',dh,me⟩:=ah;obtain ⟨mc,R,e12,mb,hR⟩:=wo.b12;obtain ⟨r0,r1,r2,r3,r4,r5,r6,r7,r8,r9,rfl⟩:∃ r0 r1 r2 r3 r4 r5 r6 r7 r8 r9,R=[r0,r1,r2,r3,r4,r5,r6,r7,r8,r9]:=by
     match R,hR with
     | [r0,r1,r2,r3,r4,r5,r6,r7,r8,r9],_=>exact ⟨_,_,_,_,_,_,_,_,_,_,rfl⟩
    have dg:=WK v.kind v.b v.i v.s v.id kn ks xn xs v.rn v.rest;simp only [JI] at me;simp only [gA] at dg;have e1:decide (ks=[])=kn:=by rcases hA with ⟨rfl,_,rfl⟩ | ⟨rfl,ma,_⟩ <;> simp [*]
    have e2:decide (xs=[])=xn:=by rcases oq with ⟨rfl,_,rfl⟩ | ⟨rfl,ma,_⟩ <;> simp [*]
    rw [fe,ed] at hk;simp only [J,yr,e1,e2] at hk;simp [-J,-y4,-y3,y0,dh,me,e12,mb,dg];exact hk _ _ ⟨rfl,mc,true,[],by simp [e12],by simp [aB,Vl.kind,Vl.b,Vl.i,Vl.s,Vl.id,Vl.kn,Vl.keys,Vl.xn,Vl.items,Vl.rn,Vl.rest]⟩
   ·simp [-J,-y4,-y3,y0];refine bad _ ?_ hb;rw [fe,nb];rfl
  ·simp [-J,-y4,-y3,y0];refine bad _ ?_ hb;rw [nb];rfl
 ·simp [CA,-J,-y4,-y3,y0,GA,qA v,h0,h1,g1,g2,ud,n2,n3,n4,n7,n8,k5,k6];refine wO w r x y v pb p B pd lg (fun u=>f x.key u y.key) HK' _ ?_ ?_ ?_ _ (fun s' ks kn ka fe hI hA nk=>?_) fun s' nb hb=>?_
  ·exact ⟨by simp,⟨1,by simp,by simp⟩,⟨1,by simp,by simp [OA]⟩,⟨1,by simp,by simp⟩,⟨1,_,by simp,(by simp; rfl),rfl⟩,⟨2,by simp,by simp [sA,ud]⟩,⟨2,by simp,by simp [sA,ud]⟩⟩
  ·simp
  ·exact ⟨_,(by simp; rfl),by simp [JI]⟩
  ·obtain ⟨wj,ld,mi⟩:=nk;simp [-J,-y4,-y3,y0];refine rM kn ks w r x y v pb p B pd wd (fun u=>f x.elem u y.elem) HI' _ ?_ ?_ ?_ _ (fun s2 xs xn xa ed wo oq ah=>?_) fun s2 nb hb=>?_
   ·obtain ⟨e5,⟨n6,e6,m6⟩,⟨kr,e8,m8⟩,⟨n9,e9,m9⟩,⟨mc,R,e12,mb,hR⟩,⟨te,wb,sb⟩,⟨uj,jc,eh⟩⟩:=hI;exact ⟨by simp [e5],⟨n6,by simp [e6],by simp [m6]⟩,⟨kr,by simp [e8],by simp [m8]⟩,⟨n9,by simp [e9],by simp [m9]⟩,⟨mc,R,by simp [e12],by simp [mb],hR⟩,⟨te,by simp [wb],by simp [sb]⟩,⟨uj,by simp [jc],by simp [eh]⟩⟩
   ·simp
   ·exact ⟨wj,ka,by simp [ld],by simp [mi]⟩
   ·obtain ⟨jr,k0',dh,me⟩:=ah;obtain ⟨mc,R,e12,mb,hR⟩:=wo.b12;obtain ⟨r0,r1,r2,r3,r4,r5,r6,r7,r8,r9,rfl⟩:∃ r0 r1 r2 r3 r4 r5 r6 r7 r8 r9,R=[r0,r1,r2,r3,r4,r5,r6,r7,r8,r9]:=by
     match R,hR with
     | [r0,r1,r2,r3,r4,r5,r6,r7,r8,r9],_=>exact ⟨_,_,_,_,_,_,_,_,_,_,rfl⟩
    have dg:=WK v.kind v.b v.i v.s v.id kn ks xn xs v.rn v.rest;simp only [JI] at me;simp only [gA] at dg;have e1:decide (ks=[])=kn:=by rcases hA with ⟨rfl,_,rfl⟩ | ⟨rfl,ma,_⟩ <;> simp [*]
    have e2:decide (xs=[])=xn:=by rcases oq with ⟨rfl,_,rfl⟩ | ⟨rfl,ma,_⟩ <;> simp [*]
    rw [fe,ed] at hk;simp only [J,yr,e1,e2] at hk;simp [-J,-y4,-y3,y0,dh,me,e12,mb,dg];exact hk _ _ ⟨rfl,mc,true,[],by simp [e12],by simp [aB,Vl.kind,Vl.b,Vl.i,Vl.s,Vl.id,Vl.kn,Vl.keys,Vl.xn,Vl.items,Vl.rn,Vl.rest]⟩
   ·simp [-J,-y4,-y3,y0];refine bad _ ?_ hb;rw [fe,nb];rfl
  ·simp [-J,-y4,-y3,y0];refine bad _ ?_ hb;rw [nb];rfl
end Go.Proofs.YtbhbeakhognieaaGreat
