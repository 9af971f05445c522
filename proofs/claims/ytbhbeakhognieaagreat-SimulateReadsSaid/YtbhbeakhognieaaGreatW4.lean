/- A part of the proof. -/
import Derived.Test.YtbhbeakhognieaaGreatWt
import Derived.Test.YtbhbeakhognieaaGreatW3
set_option linter.all false
set_option maxRecDepth 100000
set_option maxHeartbeats 8000000
open Option renaming bind_some → J, map_some → yr
open List renaming range_succ → y0, map_map → y3, getElem?_eq_getElem → y5, all_eq_true → y6, getElem_mem → y8, getElem?_eq_some_iff → y9, drop_eq_getElem_cons → yb, map_cons → yf, mem_cons → yg, mem_of_getElem? → yh, drop_eq_nil_of_le → yk, mem_cons_self → yl, map_nil → ym, mem_cons_of_mem → yo, mem_map → yp, getElem_of_mem → yq, length_cons → yF, mem_singleton → yO, mem_append_left → yS
open Int renaming toNat_lt → y4
open Bool renaming and_eq_true → y7, or_eq_true → yT
namespace Go.Proofs.YtbhbeakhognieaaGreat
open Go
section
open Go Go.RowKit Go.ChangeShapes Go.WideShapes
def readTs:List TypeId:=caseTs++[60]
theorem i8:readTs.all (QP Tryz.prog readTs)=true:=by kernel_rfl
theorem u8sTy {a:AV} (h:ParT Tryz.prog 60 a):∃ xn,∃ cs:List Int,a=.sl xn (cs.map u8C)/\GL cs/\cs.length<=9223372036854775807:=by
 obtain ⟨n,⟨hw,_⟩ | ⟨_,h⟩⟩:=h
 ·have zg:jM Tryz.prog 60=false:=by kernel_rfl
  rw [zg] at hw;cases hw
 ·cases n with
  | zero=>exact h.elim
  | succ n =>
   simp only [lM,Tryz.underlying60] at h;obtain ⟨nl,els,e,h1,_,_,h4⟩:=h;injection e with e;obtain ⟨L,rfl,hL⟩:=TX (P:=fun x=>lM Tryz.prog n 5 x) (f:=u8C) (p:=u8) (fun x hx=>by
    obtain ⟨y,e,hy⟩:=tyU hx;exact ⟨y,e,hy⟩) els (fun x hx=>(h4 x hx).2)
   exact ⟨nl,L,e,hL,by simpa [maxLen] using h1⟩
end
theorem i4:eB.size=0:=rfl
def T5 (p:ByteArray) (u:Vl):Prop:=p.size + 20<=4 * uQ u
theorem o8 (f:Int->Vl->ByteArray):∀ (l:List zB) (q:List Vl) (b:ByteArray),(∀ u∈q,∀ t,T5 (f t u) u)->(GI f l q b).size<=b.size + 4 * DI q
 | [],q,b,_=>by cases q <;> simp [GI]
 | m :: r,[],b,_=>by simp [GI]
 | m :: r,v :: q,b,h=>by
  have h1:=h v yl m.ty;have ih:=o8 f r q (if wN m v then b else b++sJ m.id m.crit (f m.ty v)) fun u hu=>h u (yo _ hu)
  have h2:=MM m.id m.crit (f m.ty v);unfold T5 at h1;rw [GI,DI];split at ih
  ·rename_i c;rw [if_pos c];omega
  ·rename_i c;rw [if_neg c];rw [ByteArray.size_append] at ih;omega
theorem M1 (f:Vl->ByteArray):∀ (l:List Vl) (b:ByteArray),(∀ u∈l,T5 (f u) u)->(eH f l b).size<=b.size + 4 * DI l
 | [],b,_=>by simp [eH]
 | v :: r,b,h=>by
  have h1:=h v yl;have ih:=M1 f r (b++eF (f v)) fun u hu=>h u (yo _ hu)
  have h2:=XE (f v);unfold T5 at h1;rw [ByteArray.size_append] at ih;rw [eH,DI];omega
theorem W7 (f g:Vl->ByteArray):∀ (l q:List Vl) (b:ByteArray),(∀ u∈l,T5 (f u) u)->(∀ u∈q,T5 (g u) u)->(fJ f g l q b).size<=b.size + 4 * DI l + 4 * DI q
 | [],q,b,_,_=>by cases q <;> simp [fJ] <;> omega
 | k :: r,[],b,_,_=>by simp [fJ]; omega
 | k :: r,v :: q,b,h,h'=>by
  have h1:=h k yl;have ao:=h' v yl;have ih:=W7 f g r q (b++eF (f k)++eF (g v)) (fun u hu=>h u (yo _ hu)) fun u hu=>h' u (yo _ hu)
  have h2:=XE (f k);have h3:=XE (g v);unfold T5 at h1 ao;rw [ByteArray.size_append,ByteArray.size_append] at ih;rw [fJ,DI,DI];omega
theorem payK_bnd (f:Int->Vl->ByteArray) (x:pA) (v:Vl) (hk:∀ u∈v.keys,∀ t,T5 (f t u) u) (hi:∀ u∈v.items,∀ t,T5 (f t u) u):T5 (ZH f x v) v:=by
 have hw:=NH v;have h0:=i4;unfold T5 ZH;split
 ·split
  ·have:(ByteArray.mk #[1]).size=1:=rfl;omega
  ·omega
 split
 ·have:=K0 (dZ v.i);omega
 split
 ·omega
 split
 ·have:=K0 v.id;omega
 split
 ·have:=o8 f x.mems v.items eB hi;omega
 split
 ·have h1:=SN v.id;rw [ByteArray.size_append];unfold armB;split
  ·rename_i m u q e1 e2;have:=hi u (by rw [e2]; exact yl) m.ty;unfold T5 at this;have:=iQ (l:=v.items) (u:=u) (by rw [e2]; exact yl);omega
  ·omega
 split
 ·unfold optB;split
  ·rename_i u q e2;have:=hi u (by rw [e2]; exact yl) x.elem;unfold T5 at this;have:=iQ (l:=v.items) (u:=u) (by rw [e2]; exact yl);have:(ByteArray.mk #[1]).size=1:=rfl;rw [ByteArray.size_append];omega
  ·omega
 split
 ·have:=M1 (f x.elem) v.items eB fun u hu=>hi u hu _
  omega
 ·have:=W7 (f x.key) (f x.elem) v.keys v.items eB (fun u hu=>hk u hu _) fun u hu=>hi u hu _
  omega
theorem payN_bnd (S:List pA):∀ (n:Nat) (t:Int) (v:Vl),T5 (sM S n t v) v:=by
 intro n
 induction n with
 | zero =>
  intro t v;have hw:=NH v;have h0:=i4;unfold T5;rw [sM];omega
 | succ n ih =>
  intro t v;rw [sM];split
  ·exact payK_bnd _ _ v (fun u _ t=>ih t u) fun u _ t=>ih t u
  ·have hw:=NH v;have h0:=i4;unfold T5;omega
theorem payV_bnd (S:List pA) (t:Int) (v:Vl) (h:uQ v<=1000000):(eP S t v).size<=140737488355328:=by
 have:=payN_bnd S (SizeOf.sizeOf v + 1) t v;unfold T5 at this;have e:sM S (SizeOf.sizeOf v + 1) t v=eP S t v:=rfl;rw [e] at this;omega
theorem tV {v:Vl} (h:sC v=true):v.kind=8\/v.keys=[]:=by
 unfold sC at h;simp only [y7,yT,decide_eq_true_eq,List.isEmpty_iff] at h;exact h.2.2.2.2.1
theorem JR {v:Vl} (h:sC v=true):5<=v.kind\/v.items=[]:=by
 unfold sC at h;simp only [y7,yT,decide_eq_true_eq,List.isEmpty_iff] at h;exact h.2.2.2.2.2.1
theorem xQ {S:List pA} {t:Int} {v:Vl} (h:QB S t v=true):0<=t/\∃ x,S[t.toNat]?=some x/\v.kind=x.kind/\sC v=true/\jE (QB S) x v=true:=by
 rw [xY,y7] at h;obtain ⟨h1,h2⟩:=h;have h0:0<=t:=by
  simp [sB] at h1;omega
 cases hx:S[t.toNat]? with
 | none=>rw [hx] at h2; cases h2
 | some x =>
  rw [hx] at h2;simp only [y7,decide_eq_true_eq] at h2;exact ⟨h0,x,rfl,h2.1.1,h2.1.2,h2.2⟩
theorem read_all {w r:FI} (F:RdF w r):∀ (n:Nat) (wt:Int) (v:Vl) (rt:Int),QB w.types wt v=true->v.ok->v.i64->0<=rt->rt<r.types.length->uQ v<=n->n<=1000000->RdP w r n wt v rt (rH w.types r.types n wt v rt):=by
 intro n
 induction n with
 | zero =>
  intro wt v rt _ _ _ _ _ hw;have:=NH v;omega
 | succ n ih =>
  intro wt v rt hp sa de h1 h2 hw hn pb p pd;obtain ⟨h0,x,gx,hk,hz,hf⟩:=xQ hp;have hrl:rt.toNat<r.types.length:=by omega
  have gy:r.types[rt.toNat]?=some r.types[rt.toNat]:=by simp [hrl]
  have az:=y8 hrl;generalize r.types[rt.toNat]=y at *
  have mo:=yh gx;have hN:rH w.types r.types (n + 1) wt v rt=rR (eP w.types) (rH w.types r.types n) x v y:=by rw [rH,gx,gy]
  rw [hN];have sj:=(Vl.ok_def v).1 sa;have pw:=(Vl.i64_def v).1 de;have hWy:=F.rwin y az;have jm:=F.good x mo;have hgy:=F.rgood y az;have lg:=sZ v.keys;have wd:=sZ v.items;have hwd:=NH v;have eu:=F.few x mo;have hfy:=F.rfew y az;have part:∀ (t:Int) (u:Vl) (z:Int),(u∈v.keys\/u∈v.items)->QB w.types t u=true->0<=z->z<r.types.length->RdP w r n t u z (rH w.types r.types n t u z):=fun t u z hu pd z0 z1=>by
   rcases hu with hu | hu
   ·have:=wgt_key hu;exact ih t u z pd (sj.2.2.2.2.1 u hu) (pw.2.1 u hu) z0 z1 (by omega) (by omega)
   ·have:=HN hu;exact ih t u z pd (sj.2.2.2.2.2 u hu) (pw.2.2 u hu) z0 z1 (by omega) (by omega)
  have HK:x.kind=y.kind->x.kind≠5->x.kind≠6->∀ u∈v.keys,RdP w r n x.key u y.key (rH w.types r.types n x.key u y.key):=fun c0 _ _ u hu=>by
   have k8:x.kind=8:=by
    rcases tV hz with h | h
    ·omega
    ·rw [h] at hu; cases hu
   unfold jE at hf;simp [k8] at hf;have hr:=hWy.key (by omega);exact part _ u _ (.inl hu) (hf.1.1.2 u hu) hr.1 hr.2
  have HI:x.kind=y.kind->x.kind≠5->x.kind≠6->∀ u∈v.items,RdP w r n x.elem u y.elem (rH w.types r.types n x.elem u y.elem):=fun c0 k5 k6 u hu=>by
   have k7:7<=x.kind:=by
    rcases JR hz with h | h
    ·omega
    ·rw [h] at hu; cases hu
   have hr:=hWy.elem (by omega);refine part _ u _ (.inr hu) ?_ hr.1 hr.2;unfold jE at hf;rw [if_neg (by omega),if_neg (by omega),if_neg (by omega),if_neg (by omega),if_neg k5,if_neg k6] at hf;by_cases c7:x.kind=7
   ·simp [c7] at hf; exact hf.2 u hu
   ·by_cases c8:x.kind=8
    ·simp [c8] at hf; exact hf.2 u hu
    ·simp [c7,c8] at hf; exact hf.2 u hu
  have HU:x.kind=y.kind->x.kind=6->∃ (qb:Bool) (q:List Int),gA 99 [.agg (GA w),.agg (eA x),.agg (fA v),.agg (GA r),.agg (eA y),.sl pb (p.map CD)] (.agg (aB (GR (eP w.types) (rH w.types r.types n) x v y) qb q)):=fun c0 k6=>by
   unfold jE at hf;simp [k6] at hf;have hl:v.items.length=1:=Classical.byContradiction fun q=>by rw [mJ _ _ _ _ _ q] at hf; cases hf
   obtain ⟨it,hi⟩:=List.length_eq_one_iff.1 hl;rw [hi] at hf;cases hm:x.mems[(QA x.mems v.id).toNat]? with
   | none=>rw [hm] at hf; simp [uD] at hf
   | some m =>
    rw [hm] at hf;simp [uD] at hf;have rk:it∈v.items:=by simp [hi]
    have ji:=HN rk;refine runion_ev w r x y v it (by omega) (by omega) (by omega) hm hi (eP w.types) (F.rpay hf.2 (sj.2.2.2.2.2 it rk) (pw.2.2 it rk) (by omega)) _ n (fun n' zf=>?_) pb p pd;have hr:=hWy.mems n' (yh zf);exact part _ it _ (.inr rk) hf.2 hr.1 hr.2
  have HR:x.kind=y.kind->x.kind=5->∃ (qb:Bool) (q:List Int),gA 100 [.agg (GA w),.agg (eA x),.agg (fA v),.agg (GA r),.agg (eA y),.sl pb (p.map CD)] (.agg (aB (aL (eP w.types) (rH w.types r.types n) x v y) qb q)):=fun c0 k5=>by
   unfold jE at hf;simp [k5] at hf;have hpr:=zQ hf.2;refine rrec_ev w r x y v n (by omega) (by omega) hf.1.1 _ _ (fun j m u n' hm hu zf=>?_) (fun j m u hm hu=>?_) (fun m hm=>(jm.2.1.2.2 m hm).1) (fun m hm=>(hgy.2.1.2.2 m hm).1) pb p pd
   ·have hr:=hWy.mems n' zf;exact part _ u _ (.inr (yh hu)) (hpr j m u hm hu) hr.1 hr.2
   ·have hum:=yh hu;have:=HN hum;exact F.rpay (hpr j m u hm hu) (sj.2.2.2.2.2 u hum) (pw.2.2 u hum) (by omega)
  have R:=JT (ext:=tA) (f:=59) (args:=[.agg (GA w),.int .i64 wt,.agg (fA v),.agg (GA r),.int .i64 rt,.sl pb (p.map CD)]) (S0:=none) SW CA rfl rfl (F:=ResI (rR (eP w.types) (rH w.types r.types n) x v y)) (P:=fun rv=>∃ qb q,rv=(.agg (aB (rR (eP w.types) (rH w.types r.types n) x v y) qb q),none))
   (fun k rv zc=>rread_run w r h0 gx h1 gy v n _ _ (by have:=hgy.2.2.1; omega) (by omega) (by omega) HK HI pb p pd HU HR k rv zc) fun e s' h=>by
    obtain ⟨rfl,m,qb,q,e12,mb⟩:=h;refine ⟨(.agg (aB (rR (eP w.types) (rH w.types r.types n) x v y) qb q),none),?_,qb,q,rfl⟩;cases ho:rR (eP w.types) (rH w.types r.types n) x v y with
    | none =>
     rw [ho] at mb;simp only [aB,yf,ym] at mb;simp [CA,-J,-y4,-y3,y0,e12,mb,aB]
    | some u =>
     rw [ho] at mb;simp only [aB,yf,ym] at mb;simp [CA,-J,-y4,-y3,y0,e12,mb,aB]
  obtain ⟨rv,⟨qb,q,rfl⟩,hR⟩:=R;exact ⟨qb,q,hR⟩
mutual
def BZ:Vl->Int->Int
 | .mk _ _ _ s _ _ ks _ xs _ _,n=>QG xs (QG ks (n - (10 + s.size)))
def QG:List Vl->Int->Int
 | [],n=>n
 | v :: r,n=>if n<0 then n else QG r (BZ v n)
end
theorem smlV_def (v:Vl) (n:Int):BZ v n=QG v.items (QG v.keys (n - (10 + v.s.size))):=by
 cases v;rw [BZ];rfl
def SmlE (v:Vl):Prop:=∀ n:Int,0<=n->n<=3000->gA 57 [.agg (fA v),.int .i64 n] (.int .i64 (BZ v n))/\-300<=BZ v n/\BZ v n<=n/\(0<=BZ v n->uQ v + BZ v n<=n)
theorem BY:∀ (l:List Vl) (n:Int),(∀ u∈l,SmlE u)->-300<=n->n<=3000->-300<=QG l n/\QG l n<=n/\(0<=QG l n->DI l + QG l n<=n)
 | [],n,_,h1,h2=>by
  rw [QG,DI];exact ⟨h1,Int.le_refl _,by omega⟩
 | v :: r,n,h,h1,h2=>by
  rw [QG,DI];split
  ·exact ⟨h1,Int.le_refl _,by omega⟩
  ·obtain ⟨_,a,b,c⟩:=h v yl n (by omega) h2;obtain ⟨d,e,f⟩:=BY r (BZ v n) (fun u hu=>h u (yo _ hu)) a (by omega);exact ⟨d,by omega,fun h=>by
    have:=f h;have:=c (by omega);omega⟩
theorem sml_lp2 {rv:RV} (v:Vl) (hr:v.rest=[]) (hl:v.keys.length<=9223372036854775807) (hv:∀ u∈v.keys,SmlE u) (a0:Int) (ha:-300<=a0) (al:a0<=3000) (s:aA) (e2:(s.env 2).v=.ptr 2 1 0) (m2:s.mem 2 1=some (OA v)) (e1:(s.env 1).v=.int .i64 a0) (ei:(s.env 6).v=.int .i64 0) (k:Ex->aA->Option RV)
  (hk:∀ s',(s'.env 2).v=.ptr 2 1 0->s'.mem 2 1=some (OA v)->(s'.env 1).v=.int .i64 (QG v.keys a0)->k (.exit 2) s'=some rv):WI jA tA jG s k=some rv:=by
 refine RA v.keys.length (fun i s=>(s.env 2).v=.ptr 2 1 0/\s.mem 2 1=some (OA v)/\(∃ a,(s.env 1).v=.int .i64 a/\-300<=a/\a<=3000/\QG (v.keys.drop i) a=QG v.keys a0)/\(s.env 6).v=.int .i64 i)
  (fun e s=>e=.exit 2/\(s.env 2).v=.ptr 2 1 0/\s.mem 2 1=some (OA v)/\(s.env 1).v=.int .i64 (QG v.keys a0)) (fun i hi s k h ih hk=>?_) _ _ ⟨e2,m2,⟨a0,e1,ha,al,rfl⟩,ei⟩ (fun e s h=>by obtain ⟨rfl,h1,h2,h3⟩:=h; exact hk _ h1 h2 h3)
 obtain ⟨e2,m2,⟨a,e1,ha,al,hs⟩,ei⟩:=h;refine iA ?_;simp only [OA] at m2;by_cases fa:i<v.keys.length
 ·have ga:(i:Int)<v.keys.length:=by omega
  have g1:(v.keys.map fA)[i]?=some (fA v.keys[i]):=by simp [fa]
  have hw:=WB (i:=i);have hx:=hv _ (y8 fa);rw [yb fa,QG] at hs;generalize v.keys[i]=x at *
  by_cases hn:a<0
  ·have zf:¬ 0<=a:=by omega
   rw [if_pos hn] at hs;simp [jG,-J,-y4,-y3,y0,e1,e2,m2,ei,ga,zf];refine hk _ _ ⟨rfl,?_,?_,?_⟩
   ·simp [e2]
   ·simp [m2,OA]
   ·simp [e1,hs]
  ·have zf:0<=a:=by omega
   rw [if_neg hn] at hs;obtain ⟨hx1,hx2,hx3,_⟩:=hx a zf al;simp only [gA,qA] at hx1;rw [qA x] at g1;simp [jG,-J,-y4,-y3,y0,e1,e2,m2,ei,ga,zf,g1,hx1,hw];refine ih fa _ ⟨?_,?_,⟨_,?_,hx2,by omega,hs⟩,?_⟩
   ·simp [e2]
   ·simp [m2,OA]
   ·simp
   ·simp
 ·have ga:¬ (i:Int)<v.keys.length:=by omega
  rw [yk (by omega),QG] at hs;simp [jG,-J,-y4,-y3,y0,e2,m2,ei,ga];refine hk _ _ ⟨rfl,?_,?_,?_⟩
  ·simp [e2]
  ·simp [m2,OA]
  ·simp [e1,hs]
theorem sml_lp1 {rv:RV} (v:Vl) (hr:v.rest=[]) (hl:v.items.length<=9223372036854775807) (hv:∀ u∈v.items,SmlE u) (a0:Int) (ha:-300<=a0) (al:a0<=3000) (s:aA) (e2:(s.env 2).v=.ptr 2 1 0) (m2:s.mem 2 1=some (OA v)) (e1:(s.env 1).v=.int .i64 a0) (ei:(s.env 7).v=.int .i64 0) (k:Ex->aA->Option RV)
  (hk:∀ s',(s'.env 2).v=.ptr 2 1 0->s'.mem 2 1=some (OA v)->(s'.env 1).v=.int .i64 (QG v.items a0)->k (.exit 4) s'=some rv):WI jA tA gG s k=some rv:=by
 refine RA v.items.length (fun i s=>(s.env 2).v=.ptr 2 1 0/\s.mem 2 1=some (OA v)/\(∃ a,(s.env 1).v=.int .i64 a/\-300<=a/\a<=3000/\QG (v.items.drop i) a=QG v.items a0)/\(s.env 7).v=.int .i64 i)
  (fun e s=>e=.exit 4/\(s.env 2).v=.ptr 2 1 0/\s.mem 2 1=some (OA v)/\(s.env 1).v=.int .i64 (QG v.items a0)) (fun i hi s k h ih hk=>?_) _ _ ⟨e2,m2,⟨a0,e1,ha,al,rfl⟩,ei⟩ (fun e s h=>by obtain ⟨rfl,h1,h2,h3⟩:=h; exact hk _ h1 h2 h3)
 obtain ⟨e2,m2,⟨a,e1,ha,al,hs⟩,ei⟩:=h;refine iA ?_;simp only [OA] at m2;by_cases fa:i<v.items.length
 ·have ga:(i:Int)<v.items.length:=by omega
  have g1:(v.items.map fA)[i]?=some (fA v.items[i]):=by simp [fa]
  have hw:=WB (i:=i);have hx:=hv _ (y8 fa);rw [yb fa,QG] at hs;generalize v.items[i]=x at *
  by_cases hn:a<0
  ·have zf:¬ 0<=a:=by omega
   rw [if_pos hn] at hs;simp [gG,-J,-y4,-y3,y0,e1,e2,m2,ei,ga,zf];refine hk _ _ ⟨rfl,?_,?_,?_⟩
   ·simp [e2]
   ·simp [m2,OA]
   ·simp [e1,hs]
  ·have zf:0<=a:=by omega
   rw [if_neg hn] at hs;obtain ⟨hx1,hx2,hx3,_⟩:=hx a zf al;simp only [gA,qA] at hx1;rw [qA x] at g1;simp [gG,-J,-y4,-y3,y0,e1,e2,m2,ei,ga,zf,g1,hx1,hw];refine ih fa _ ⟨?_,?_,⟨_,?_,hx2,by omega,hs⟩,?_⟩
   ·simp [e2]
   ·simp [m2,OA]
   ·simp
   ·simp
 ·have ga:¬ (i:Int)<v.items.length:=by omega
  rw [yk (by omega),QG] at hs;simp [gG,-J,-y4,-y3,y0,e2,m2,ei,ga];refine hk _ _ ⟨rfl,?_,?_,?_⟩
  ·simp [e2]
  ·simp [m2,OA]
  ·simp [e1,hs]
theorem sml_ev {S:List pA} (hS:JO S):∀ (N:Nat) (v:Vl),SizeOf.sizeOf v<N->∀ t,QB S t v=true->v.ok->SmlE v:=by
 intro N
 induction N with
 | zero=>intro v h; omega
 | succ N ih =>
  intro v hN t hp sa n xr hn;obtain ⟨h0,x,gx,hk,hz,hf⟩:=xQ hp;have sj:=(Vl.ok_def v).1 sa;have jm:=hS x (yh gx);have hr:v.rest=[]:=Classical.byContradiction fun c=>by rw [l8 _ x v hk hz c] at hf; cases hf
  have hs:v.s.size<=200:=by
   by_cases k3:x.kind=3
   ·have hg:=jm.1;unfold dB LG at hg;simp [k3] at hg;unfold jE at hf;simp [k3] at hf;omega
   ·have:v.s=⟨#[]⟩:=by
     unfold sC at hz;simp only [y7,yT,decide_eq_true_eq] at hz;rcases hz.2.2.1 with h | h
     ·omega
     ·exact h
    rw [this];show 0<=200;omega
  have IK:∀ u∈v.keys,SmlE u:=fun u hu=>by
   have k8:x.kind=8:=by
    rcases tV hz with h | h
    ·omega
    ·rw [h] at hu; cases hu
   unfold jE at hf;simp [k8] at hf;exact ih u (by have:=Vl.keys_lt v u hu; omega) _ (hf.1.1.2 u hu) (sj.2.2.2.2.1 u hu)
  have II:∀ u∈v.items,SmlE u:=fun u hu=>by
   have sz:SizeOf.sizeOf u<N:=by have:=Vl.items_lt v u hu; omega
   have ok:=sj.2.2.2.2.2 u hu;have k5:5<=x.kind:=by
    rcases JR hz with h | h
    ·omega
    ·rw [h] at hu; cases hu
   unfold jE at hf;rw [if_neg (by omega),if_neg (by omega),if_neg (by omega),if_neg (by omega)] at hf;by_cases c5:x.kind=5
   ·simp [c5] at hf;obtain ⟨j,hj,rfl⟩:=yq hu;have hjm:j<x.mems.length:=by omega
    exact ih _ sz _ (zQ hf.2 j x.mems[j] _ (by simp [hjm]) (by simp [hj])) ok
   rw [if_neg c5] at hf;by_cases c6:x.kind=6
   ·simp [c6] at hf;have hl:v.items.length=1:=Classical.byContradiction fun q=>by rw [mJ _ _ _ _ _ q] at hf; cases hf
    obtain ⟨it,hi⟩:=List.length_eq_one_iff.1 hl;rw [hi] at hf hu;cases hm:x.mems[(QA x.mems v.id).toNat]? with
    | none=>rw [hm] at hf; simp [uD] at hf
    | some m =>
     rw [hm] at hf;simp [uD] at hf;rw [yO] at hu;subst hu;exact ih _ sz _ hf.2 ok
   rw [if_neg c6] at hf;by_cases c7:x.kind=7
   ·simp [c7] at hf; exact ih _ sz _ (hf.2 u hu) ok
   ·by_cases c8:x.kind=8
    ·simp [c8] at hf; exact ih _ sz _ (hf.2 u hu) ok
    ·simp [c7,c8] at hf; exact ih _ sz _ (hf.2 u hu) ok
  have hw:=NH v;obtain ⟨a1,a2,a3⟩:=BY v.keys (n - (10 + v.s.size)) IK (by omega) (by omega);obtain ⟨b1,b2,b3⟩:=BY v.items (QG v.keys (n - (10 + v.s.size))) II a1 (by omega);have hd:=smlV_def v n;refine ⟨?_,by omega,by omega,fun h=>?_⟩
  ·have w1:IntKind.i64.wrap (10 + (v.s.size:Int))=10 + v.s.size:=IntWalk.i64_in _ (by omega);have w2:IntKind.i64.wrap (n - (10 + (v.s.size:Int)))=n - (10 + v.s.size):=IntWalk.i64_in _ (by omega);refine rA (c:=xL) rfl rfl ?_;rw [qA,hr];simp [xL,-J,-y4,-y3,y0,w1,w2];refine iA ?_;simp [DO,-J,-y4,-y3,y0];refine sml_lp2 v hr sj.1 IK (n - (10 + v.s.size)) (by omega) (by omega) _ ?_ ?_ ?_ ?_ _ (fun s' e2 m2 e1=>?_)
   ·simp
   ·simp [OA,hr]
   ·simp
   ·simp
   simp [-J,-y4,-y3,y0];refine sml_lp1 v hr sj.2.1 II (QG v.keys (n - (10 + v.s.size))) a1 (by omega) _ ?_ ?_ ?_ ?_ _ (fun s2 f2 n2 f1=>?_)
   ·simp [e2]
   ·simpa using m2
   ·simp [e1]
   ·simp
   simp [-J,-y4,-y3,y0,f1,hd]
  ·rw [hd] at h ⊢;have:=b3 h;have:=a3 (by omega);omega
theorem small_ev {S:List pA} (hS:JO S) {t:Int} {v:Vl} (hp:QB S t v=true) (sa:v.ok):∃ b,gA 28 [.agg (fA v)] (.bool b)/\(b=true->uQ v<=3000):=by
 obtain ⟨h,h1,h2,h3⟩:=sml_ev hS _ v (Nat.lt_succ_self _) t hp sa 3000 (by omega) (by omega);refine ⟨decide (0<=BZ v 3000),?_,fun hb=>?_⟩
 ·simp only [gA,qA] at h ⊢;refine rA (c:=kK) rfl rfl ?_;simp [kK,-J,-y4,-y3,y0,h]
 ·have:=h3 (by simpa using hb);simp at hb;omega
structure FinG (W R:List pA) (G:Pr->Prop):Prop where
 rng:∀ p,G p->rP W.length R.length p
 rsn:∀ p,G p->rsP W R p=0
 suc:∀ p,G p->∀ q∈nxP W R p,G q
theorem UP {α β:Type} {f:α->Option β}:∀ (l:List α),(∀ x∈l,∃ y,f x=some y)->∃ ys,rC f l=some ys
 | [],_=>⟨[],rfl⟩
 | x :: r,h=>by
  obtain ⟨y,hy⟩:=h x yl;obtain ⟨ys,hs⟩:=UP r fun z hz=>h z (yo _ hz)
  exact ⟨y :: ys,by rw [rC,hy,hs]; rfl⟩
theorem iO:∀ {l m:List Int},l.Nodup->(∀ x∈l,x∈m)->l.length<=m.length
 | [],m,_,_=>Nat.zero_le _
 | x :: r,m,hn,hm=>by
  rw [List.nodup_cons] at hn;have hx:=hm x (by simp);have:=iO (l:=r) (m:=m.erase x) hn.2 (fun y hy=>by
   have ma:y≠x:=fun e=>hn.1 (e ▸ hy)
   exact (List.mem_erase_of_ne ma).2 (hm y (by simp [hy])))
  rw [List.length_erase_of_mem hx] at this;have hp:0<m.length:=List.length_pos_of_mem hx;simp only [yF];omega
theorem X3 (f:Vl->Int):∀ ks:List Vl,BG ks=true->(∀ a∈ks,∀ b∈ks,IJ a b<0->f a<f b)->ks.Pairwise fun a b=>f a<f b
 | [],_,_=>.nil
 | [a],_,_=>List.pairwise_singleton _ _
 | a :: b :: r,h,hf=>by
  rw [BG,y7,decide_eq_true_eq] at h;have ih:=X3 f (b :: r) h.2 fun x hx y hy=>hf x (yo _ hx) y (yo _ hy)
  have ig:=hf a (by simp) b (by simp) h.1;rw [List.pairwise_cons] at ih ⊢;refine ⟨fun c hc=>?_,List.pairwise_cons.2 ih⟩;rcases yg.1 hc with rfl | hc
  ·exact ig
  ·have:=ih.1 c hc;omega
theorem bY {f g:Vl->Int} (hfg:∀ a b,f a<f b->g a≠g b) {ks:List Vl} (h:ks.Pairwise fun a b=>f a<f b):(ks.map g).Nodup:=by
 rw [List.Nodup,List.pairwise_map];exact h.imp fun {a b} h=>hfg a b h
theorem cmpI_lt {a b:Int} (h:xM a b<0):a<b:=by
 unfold xM at h;split at h
 ·assumption
 ·split at h <;> omega
theorem keys_bnd {t:pA} {f:Int->Vl->Bool} {ks:List Vl} (h1:1<=t.kind) (h4:t.kind<=4) (hs:t.sm) (hk:∀ u∈ks,u.kind=t.kind/\jE f t u=true) (ha:BG ks=true) (hl:(ks.length:Int)<=50):(ks.length:Int)<=IV t:=by
 unfold IV;by_cases k1:t.kind=1
 ·rw [if_pos k1];have hp:=X3 (fun u=>if u.b then 1 else 0) ks ha fun a ha b hb h=>by
   unfold IJ at h;rw [if_neg (by rw [(hk a ha).1,(hk b hb).1]; simp),if_pos (by rw [(hk a ha).1,k1])] at h;cases e1:a.b <;> cases e2:b.b <;> simp [e1,e2] at h ⊢
  have hn:=bY (g:=fun u=>if u.b then 1 else 0) (fun a b h=>by omega) hp;have:=iO (m:=[0,1]) hn fun x hx=>by
   obtain ⟨u,_,rfl⟩:=yp.1 hx;cases u.b <;> simp
  simp at this;omega
 rw [if_neg k1];by_cases k2:t.kind=2
 ·rw [if_pos k2];obtain ⟨s1,s2,s3⟩:=hs k2;have hp:=X3 (fun u=>dZ u.i) ks ha fun a ha b hb h=>by
   unfold IJ at h;rw [if_neg (by rw [(hk a ha).1,(hk b hb).1]; simp),if_neg (by rw [(hk a ha).1]; exact k1),if_pos (by rw [(hk a ha).1,k2])] at h;exact cmpI_lt h
  have hn:=bY (g:=fun u=>u.i) (fun a b h e=>by simp only [e] at h; omega) hp;have:=iO (m:=(List.range (t.high - t.low + 1).toNat).map fun (j:Nat)=>t.low + j) hn fun x hx=>by
   obtain ⟨u,hu,rfl⟩:=yp.1 hx;have hf:=(hk u hu).2;unfold jE at hf;simp [k1,k2] at hf;rw [yp];refine ⟨(u.i - t.low).toNat,?_,by omega⟩;rw [List.mem_range];omega
  simp at this;omega
 rw [if_neg k2];by_cases k4:t.kind=4
 ·rw [if_pos k4];have hp:=X3 (fun u=>u.id) ks ha fun a ha b hb h=>by
   unfold IJ at h;rw [if_neg (by rw [(hk a ha).1,(hk b hb).1]; simp),if_neg (by rw [(hk a ha).1]; exact k1),if_neg (by rw [(hk a ha).1]; exact k2),if_neg (by rw [(hk a ha).1,k4]; omega),if_pos (by rw [(hk a ha).1,k4])] at h;exact cmpI_lt h
  have hn:=bY (g:=fun u=>u.id) (fun a b h=>by omega) hp;have:=iO (m:=t.syms.map nQ.id) hn fun x hx=>by
   obtain ⟨u,hu,rfl⟩:=yp.1 hx;have hf:=(hk u hu).2;unfold jE at hf;simp [k4] at hf;have h2:=GH (fun x:nQ=>decide (x.id=u.id)) t.syms;have h3:(t.syms.any fun x=>decide (x.id=u.id))=true:=by rw [<- h2]; exact decide_eq_true hf
   obtain ⟨q,hq,he⟩:=List.any_eq_true.1 h3;exact yp.2 ⟨q,hq,by simpa using he⟩
  simp at this;omega
 rw [if_neg k4];have k3:t.kind=3:=by omega
 by_cases m0:t.max=0
 ·rw [if_pos m0]
  match ks,ha,hk with
  | [],_,_=>simp
  | [_],_,_=>simp
  | a :: b :: r,ha,hk =>
   exfalso;rw [BG,y7,decide_eq_true_eq] at ha;have h:=ha.1;have ka:=hk a (by simp);have kb:=hk b (by simp);have z:∀ u:Vl,jE f t u=true->u.s=⟨#[]⟩:=fun u hf=>by
    unfold jE at hf;simp [k3,m0] at hf;exact hf
   unfold IJ at h;rw [if_neg (by rw [ka.1,kb.1]; simp),if_neg (by rw [ka.1]; exact k1),if_neg (by rw [ka.1]; exact k2),if_pos (by rw [ka.1,k3]),z a ka.2,z b kb.2] at h;simp [GT] at h
 ·rw [if_neg m0];omega
theorem d8 {mns:zB->zB->Bool} {xs:List zB}:∀ {ys:List zB},ZP mns xs ys=0->∀ g∈ys,(QA xs g.id<0->g.has=true)/\∀ f,0<=QA xs g.id->xs[(QA xs g.id).toNat]?=some f->f.has=true->g.has=true/\mns f g=true
 | [],_,g,hg=>by cases hg
 | y :: r,h,g,hg=>by
  have key:ZP mns xs r=0/\((QA xs y.id<0->y.has=true)/\∀ f,0<=QA xs y.id->xs[(QA xs y.id).toNat]?=some f->f.has=true->y.has=true/\mns f y=true):=by
   rw [ZP] at h;by_cases c:0<=QA xs y.id
   ·rw [if_pos c] at h;cases e:xs[(QA xs y.id).toNat]? with
    | none =>
     rw [e] at h;exact ⟨h,fun h=>by omega,fun f _ h=>by cases h⟩
    | some f =>
     rw [e] at h;simp only at h;by_cases c1:f.has=true
     ·rw [if_pos c1] at h;by_cases c2:y.has=true
      ·rw [if_pos c2] at h;by_cases c3:mns f y=true
       ·rw [if_pos c3] at h;exact ⟨h,fun _=>c2,fun f' _ h' _=>by injection h' with h'; subst h'; exact ⟨c2,c3⟩⟩
       ·rw [if_neg c3] at h; cases h
      ·rw [if_neg c2] at h; cases h
     ·rw [if_neg c1] at h;exact ⟨h,fun h=>by omega,fun f' _ h' h''=>by injection h' with h'; subst h'; exact absurd h'' c1⟩
   ·rw [if_neg c] at h;by_cases c2:y.has=true
    ·rw [if_pos c2] at h;exact ⟨h,fun _=>c2,fun f h=>absurd h c⟩
    ·rw [if_neg c2] at h; cases h
  rcases yg.1 hg with rfl | hg
  ·exact key.2
  ·exact d8 key.1 g hg
theorem IX {l:List zB} {id:Int} (h:0<=QA l id):∃ m,l[(QA l id).toNat]?=some m/\m∈l/\m.id=id:=by
 obtain ⟨m,h1,h2⟩:=EI (fun x:zB=>decide (x.id=id)) l (by unfold QA at h; omega);exact ⟨m,h1,yh h1,by simpa using h2⟩
theorem same_of {k:Int} {b:Bool} {i:Int} {s:ByteArray} {d:Int} {v:Vl} (h:(Vl.of k b i s d).same v=true):v.kind=k/\v.b=b/\v.i=i/\v.s=s/\v.id=d/\v.rest=[]/\v.keys=[]/\v.items=[]:=by
 have sl:∀ l,Vl.sames [] l=true->l=[]:=fun l h=>by
  cases l with
  | nil=>rfl
  | cons _ _=>rw [Vl.sames] at h; cases h
 rw [Vl.same_def] at h;simp only [y7,decide_eq_true_eq,beq_iff_eq] at h;obtain ⟨⟨⟨⟨⟨⟨⟨h1,h2⟩,h3⟩,h4⟩,h5⟩,h6⟩,h7⟩,h8⟩:=h;exact ⟨h1.symm,h2.symm,h3.symm,h4.symm,h5.symm,h6.symm,sl _ h7,sl _ h8⟩
theorem of_same {k:Int} {b:Bool} {i:Int} {s:ByteArray} {d:Int} {v w:Vl} (h:(Vl.of k b i s d).same v=true) (h1:w.kind=k) (h2:w.b=b) (h3:w.i=i) (h4:w.s=s) (h5:w.id=d) (h6:w.rest=[]) (h7:w.keys=[]) (h8:w.items=[]):v.same w=true:=by
 obtain ⟨g1,g2,g3,g4,g5,g6,g7,g8⟩:=same_of h;rw [Vl.same_def,g1,g2,g3,g4,g5,g6,g7,g8,h1,h2,h3,h4,h5,h6,h7,h8];simp [Vl.sames]
theorem read_hol {W R:List pA} {n:Nat} {wt rt:Int} {v u:Vl} (h:rH W R n wt v rt=some u) (hk:v.keys=[]) (hi:v.items=[]) (kt:∀ x,W[wt.toNat]?=some x->x.kind≠5/\x.kind≠6):u.kind=v.kind/\u.b=v.b/\u.i=v.i/\u.s=v.s/\u.id=v.id/\u.rest=v.rest/\u.keys=[]/\u.items=[]:=by
 cases n with
 | zero=>cases h
 | succ n =>
  rw [rH] at h;cases hx:W[wt.toNat]? with
  | none=>rw [hx] at h; cases h
  | some x =>
   obtain ⟨c5,c6⟩:=kt x hx;cases hy:R[rt.toNat]? with
   | none=>rw [hx,hy] at h; cases h
   | some y =>
    rw [hx,hy] at h;simp only at h;unfold rR at h;rw [hk,hi,if_neg c6,if_neg c5] at h
    repeat (split at h; cases h)
    simp only [rC,J,yr,Option.some.injEq] at h;subst h;exact ⟨rfl,rfl,rfl,rfl,rfl,rfl,rfl,rfl⟩
theorem nx_mem {W R:List pA} {p q:Pr} (hk:(SD W p.1).kind=(SD R p.2).kind) (h:q∈sR (SD W p.1).mems (SD R p.2).mems++xX (SD W p.1) (SD R p.2)++cP (SD W p.1) (SD R p.2)):q∈nxP W R p:=by
 unfold nxP DS;rw [if_pos hk];exact (OL _ _).2 (.inr h)
theorem com_mem {xs ys:List zB} {f g:zB} (hf:f∈xs) (h:0<=QA ys f.id) (hg:ys[(QA ys f.id).toNat]?=some g):(f.ty,g.ty)∈sR xs ys:=by
 unfold sR;rw [List.mem_flatMap];refine ⟨f,hf,?_⟩;unfold N3;rw [if_pos h,hg];exact yO.2 rfl
theorem nP {S:List pA} (h:DrF S) {x:pA} (hx:x∈S):dB x=true:=by
 obtain ⟨j,hj,rfl⟩:=yq hx;exact (AK (SI h.val j hj)).1
theorem reads_all {W R:List pA} (hW:DrF W) (hR:DrF R) {G:Pr->Prop} (F:FinG W R G):∀ (n:Nat) (wt:Int) (v:Vl) (rt:Int),G (wt,rt)->QB W wt v=true->uQ v<=n->∃ u,rH W R n wt v rt=some u:=by
 intro n
 induction n with
 | zero =>
  intro wt v rt _ _ hw;have:=NH v;omega
 | succ n ih =>
  intro wt v rt hG hp hw;obtain ⟨h0,x,gx,hk,hz,hf⟩:=xQ hp;have pe:=F.rng _ hG;have gx':=nJ pe.1 pe.2.1;have gy:=nJ pe.2.2.1 pe.2.2.2;simp only at gx' gy;have hx:x=SD W wt:=by rw [gx] at gx'; injection gx'
  have hr:=F.rsn _ hG;have hsu:=F.suc _ hG;have dd:∀ q,x.kind=(SD R rt).kind->q∈sR x.mems (SD R rt).mems++xX x (SD R rt)++cP x (SD R rt)->G q:=fun q zc hq=>by
   refine hsu q (nx_mem ?_ ?_)
   ·show (SD W wt).kind=(SD R rt).kind;rw [<- hx]; exact zc
   ·show q∈sR (SD W wt).mems (SD R rt).mems++xX (SD W wt) (SD R rt)++cP (SD W wt) (SD R rt);rw [<- hx]; exact hq
  unfold rsP at hr;simp only at hr;rw [<- hx] at hr;have mo:=yh gx;have az:=yh gy;have gdx:=hW.gd mo;rw [rH,gx,gy];simp only;generalize SD R rt=y at *
  have upx:=(RW (nP hW mo)).1;have upy:=(RW (nP hR az)).1;clear pe hsu gx' hx;have c1:¬ x.kind≠y.kind:=fun c=>by rw [rsnP,if_pos c] at hr; cases hr
  rw [rsnP,if_neg c1] at hr;have th:x.kind=y.kind:=Classical.byContradiction c1;have c2:¬ (x.kind=2/\(v.i<y.low\/y.high<v.i)):=fun ⟨k,h⟩=>by
   simp [k] at hr;unfold jE at hf;simp [k] at hf;omega
  have c3:¬ (x.kind=3/\y.max<v.s.size):=fun ⟨k,h⟩=>by
   simp [k] at hr;unfold jE at hf;simp [k] at hf;omega
  have c4:¬ (x.kind=4/\ZF y.syms v.id<0/\y.opn=false):=fun ⟨k,h,ho⟩=>by
   simp [k,ho] at hr;unfold jE at hf;simp [k] at hf;have h2:=GH (fun x:nQ=>decide (x.id=v.id)) x.syms;have h3:(x.syms.any fun x=>decide (x.id=v.id))=true:=by rw [<- h2]; exact decide_eq_true hf
   obtain ⟨q,hq,he⟩:=List.any_eq_true.1 h3;unfold aR at hr;rw [y7] at hr;have:=y6.1 hr.1 q hq;simp only [decide_eq_true_eq] at this he;rw [he] at this;omega
  have c7:¬ ((x.kind=7\/x.kind=8)/\y.max<v.items.length):=fun ⟨k,h⟩=>by
   rcases k with k | k
   ·simp [k] at hr;unfold jE at hf;simp [k] at hf;omega
   ·obtain ⟨z1,z2,t,z3,z4,z5,z6⟩:=gdx.key k;have dx:keyN W x=IV t:=by rw [keyN,z3]
    simp [k,dx] at hr;unfold jE at hf;simp [k] at hf;obtain ⟨⟨⟨⟨f1,f2⟩,f3⟩,f4⟩,f5⟩:=hf;have kb:=keys_bnd (f:=QB W) z4 z5 z6 (ks:=v.keys) (fun u hu=>by
     obtain ⟨_,t',g',h1,_,h2⟩:=xQ (f3 u hu);rw [z3] at g';injection g' with g';subst g';exact ⟨h1,h2⟩) f4 (by omega)
    omega
  unfold rR;rw [if_neg c1,if_neg c2,if_neg c3,if_neg c4,if_neg c7];by_cases k6:x.kind=6
  ·rw [if_pos k6];simp [k6] at hr;unfold jE at hf;simp [k6] at hf;have hl:v.items.length=1:=Classical.byContradiction fun q=>by rw [mJ _ _ _ _ _ q] at hf; cases hf
   obtain ⟨it,hi⟩:=List.length_eq_one_iff.1 hl;rw [hi] at hf;cases hm:x.mems[(QA x.mems v.id).toNat]? with
   | none=>rw [hm] at hf; simp [uD] at hf
   | some m =>
    rw [hm] at hf;simp [uD] at hf;obtain ⟨m',pj,bq,hm3⟩:=IX hf.1.1;rw [hm] at pj;injection pj with pj;subst pj;unfold GR;rw [hm,hi];simp only;by_cases c:QA y.mems v.id<0
    ·rw [if_pos c];have ho:y.opn=true:=by
      cases ho:y.opn with
      | true=>rfl
      | false =>
       have h:=hr ho;unfold aR at h;rw [y7] at h;have:=y6.1 h.2 m bq;rw [hm3] at this;simp only [decide_eq_true_eq] at this;omega
     rw [if_pos ho];exact ⟨_,rfl⟩
    ·rw [if_neg c];obtain ⟨g,hg1,hg2,hg3⟩:=IX (l:=y.mems) (id:=v.id) (by omega);rw [hg1];have hq:=dd (m.ty,g.ty) th (yS _ (yS _ (com_mem bq (by rw [hm3]; omega) (by rw [hm3]; exact hg1))));have rk:it∈v.items:=by simp [hi]
     have ji:=HN rk;obtain ⟨u,hu⟩:=ih m.ty it g.ty hq hf.2 (by omega);exact ⟨_,by simp only; rw [hu]; rfl⟩
  rw [if_neg k6];by_cases k5:x.kind=5
  ·rw [if_pos k5];simp [k5] at hr;unfold PV at hr;have hr0:ZP (mnsP W R) x.mems y.mems=0:=by
    by_cases c:ZP (mnsP W R) x.mems y.mems=0
    ·exact c
    ·rw [if_neg c] at hr; exact absurd hr c
   rw [if_pos hr0] at hr;have xo:x.mems.any (crP y.mems)=false:=by
    cases hc:x.mems.any (crP y.mems) with
    | false=>rfl
    | true=>rw [hc] at hr; cases hr
   unfold jE at hf;simp [k5] at hf;obtain ⟨⟨ia,_⟩,hpr⟩:=hf;have hpg:=zQ hpr;have h1:∃ xs,rC (UH (rH W R n) x v) y.mems=some xs:=UP _ fun g hg=>by
    obtain ⟨r1,r2⟩:=d8 hr0 g hg;unfold UH;by_cases c:QA x.mems g.id<0
    ·rw [if_pos c,if_pos (r1 c)];exact ⟨_,rfl⟩
    ·rw [if_neg c];obtain ⟨m,pj,bq,hm3⟩:=IX (l:=x.mems) (id:=g.id) (by omega);have fa:=(y9.1 pj).1;have xf:v.items[(QA x.mems g.id).toNat]?=some v.items[(QA x.mems g.id).toNat]:=y5 (by omega);have rk:v.items[(QA x.mems g.id).toNat]'(by omega)∈v.items:=y8 _;rw [pj,xf];generalize v.items[(QA x.mems g.id).toNat]'(by omega)=it at *
     simp only;obtain ⟨c',ae⟩:=List.getElem?_of_mem hg;have hgi:=PX upy ae;have hq:=dd (m.ty,g.ty) th (yS _ (yS _ (com_mem bq (by rw [hm3,hgi]; omega) (by rw [hm3,hgi]; exact ae))));have ji:=HN rk;have pd:=hpg _ m it pj xf;obtain ⟨u,hu⟩:=ih m.ty it g.ty hq pd (by omega);rw [hu];simp only [J];by_cases hd:M9 m it=true
     ·have aj:=hd;unfold M9 at aj;rw [y7] at aj;obtain ⟨q1,q2⟩:=r2 m (by omega) pj aj.1;unfold mnsP at q2;rw [y7] at q2;obtain ⟨k,b,i,s,d,he⟩:=hW.hol x mo m bq;rw [he] at aj q2;obtain ⟨s1,s2,s3,s4,s5,s6,s7,s8⟩:=same_of aj.2;obtain ⟨t1,t2,t3,t4,t5,t6,t7,t8⟩:=read_hol hu s7 s8 fun z hz=>hW.k56 x mo m bq aj.1 z hz
      have:M9 g u=true:=by
       unfold M9;rw [q1,of_same q2.2 (by rw [t1,s1]) (by rw [t2,s2]) (by rw [t3,s3]) (by rw [t4,s4]) (by rw [t5,s5]) (by rw [t6,s6]) t7 t8];rfl
      rw [this,hd];exact ⟨u,rfl⟩
     ·have aj:M9 m it=false:=by simpa using hd
      rw [aj];exact ⟨u,rfl⟩
   have h2:∃ qs,rC (OI (eP W) y) (x.mems.zip v.items)=some qs:=UP _ fun a ha=>by
    obtain ⟨m,it⟩:=a;have hm:=(List.of_mem_zip ha).1;unfold OI;simp only;by_cases c:0<=QA y.mems m.id
    ·rw [if_pos c]; exact ⟨_,rfl⟩
    ·rw [if_neg c];have rq:m.crit=false:=by
      have:=List.any_eq_false.1 xo m hm;unfold crP at this;simpa [c] using this
     rw [rq];by_cases hd:M9 m it=true
     ·simp [hd]
     ·simp [hd]
   obtain ⟨xs,ed⟩:=h1;obtain ⟨qs,hqs⟩:=h2;unfold aL restR;rw [ed,hqs];exact ⟨_,rfl⟩
  rw [if_neg k5];have h1:∃ ks,rC (fun k=>rH W R n x.key k y.key) v.keys=some ks:=UP _ fun u hu=>by
   have k8:x.kind=8:=by
    rcases tV hz with h | h
    ·omega
    ·rw [h] at hu; cases hu
   unfold jE at hf;simp [k8] at hf;have lb:0<v.keys.length:=List.length_pos_of_mem hu;have hq:=dd (x.key,y.key) th (yS _ (List.mem_append_right _ (by unfold xX; rw [if_pos ⟨k8,by omega⟩]; exact yO.2 rfl)));have:=wgt_key hu;exact ih x.key u y.key hq (hf.1.1.2 u hu) (by omega)
  have h2:∃ xs,rC (fun u=>rH W R n x.elem u y.elem) v.items=some xs:=UP _ fun u hu=>by
   have lb:0<v.items.length:=List.length_pos_of_mem hu;have:=HN hu;have k7:7<=x.kind:=by
    rcases JR hz with h | h
    ·omega
    ·rw [h] at hu; cases hu
   unfold jE at hf;rw [if_neg (by omega),if_neg (by omega),if_neg (by omega),if_neg (by omega),if_neg k5,if_neg k6] at hf;have hq:(x.kind=9\/(x.kind=7\/x.kind=8)/\0<x.max)->G (x.elem,y.elem):=fun h=>dd (x.elem,y.elem) th (List.mem_append_right _ (by unfold cP; rw [if_pos h]; exact yO.2 rfl))
   by_cases c7:x.kind=7
   ·simp [c7] at hf;exact ih x.elem u y.elem (hq (.inr ⟨.inl c7,by omega⟩)) (hf.2 u hu) (by omega)
   ·by_cases c8:x.kind=8
    ·simp [c8] at hf;exact ih x.elem u y.elem (hq (.inr ⟨.inr c8,by omega⟩)) (hf.2 u hu) (by omega)
    ·simp [c7,c8] at hf;have k9:x.kind=9:=by
      have:=(lH (nP hW mo)).2;omega
     exact ih x.elem u y.elem (hq (.inl k9)) (hf.2 u hu) (by omega)
  obtain ⟨ks,fe⟩:=h1;obtain ⟨xs,ed⟩:=h2;rw [fe,ed];exact ⟨_,rfl⟩
theorem d9:gA 25 [] (.bool true):=awl_knows.run 3000 (by kernel_rfl)
theorem draft_rd {l1 l2:List fC} (h1:oks l1) (h2:oks l2):RdF ⟨false,lA l1⟩ ⟨false,lA l2⟩:=by
 have D1:=zS h1;have D2:=zS h2;exact ⟨nI D1.fine D1.val,(ZW h1).few,dD D1.val,nI D2.fine D2.val,(ZW h2).few,dD D2.val,fun t u _ hw=>payV_bnd _ t u hw⟩
theorem rreadv_ev {w r:FI} (F:RdF w r) (hw:w.fine) (hr:r.fine) (vw:valid w.types=0) (vr:valid r.types=0) {i k:Int} (hi:0<=i/\i<w.types.length) (hk:0<=k/\k<r.types.length) {v:Vl} (sa:v.ok) (de:v.i64) (hp:QB w.types i v=true) (hwt:uQ v<=3000) :
  ∃ u e,gA 29 [.agg (GA w),.int .i64 i,.agg (fA v),.agg (GA r),.int .i64 k] (.tup [.agg (fA u),.int .i64 e])/\(e=0\/e=12)/\((∃ u,rH w.types r.types 3000 i v k=some u)->e=0):=by
 have h1:=w8 w r hw hr vw vr hi hk sa de hp;obtain ⟨qb,q,h2⟩:=read_all F 3000 i v k hp sa de hk.1 hk.2 hwt (by omega) true [] (by simp);cases ho:rH w.types r.types 3000 i v k with
 | none =>
  rw [ho] at h2;refine ⟨.of 0 false 0 ⟨#[]⟩ 0,12,?_,.inr rfl,fun ⟨_,h⟩=>by cases h⟩;refine rA (c:=iF) rfl rfl ?_;simp only [gA,aB,GA,qA v,ym] at h1 h2 ⊢;simp [iF,-J,-y4,-y3,y0,h1,h2,EC]
 | some u =>
  rw [ho] at h2;refine ⟨u,0,?_,.inl rfl,fun _=>rfl⟩;refine rA (c:=iF) rfl rfl ?_;simp only [gA,aB,GA,qA v,ym] at h1 h2 ⊢;rw [qA u];simp [iF,-J,-y4,-y3,y0,h1,h2]
theorem fineP_G {W R:List pA} (hF:SimF ⟨false,W⟩ ⟨false,R⟩ (nxP W R) (rsP W R)) {p:Pr} (hp:rP W.length R.length p) (h:SK (nxP W R) (rsP W R) p=true):FinG W R (fun q=>q∈FJ (CO (nxP W R) p)):=by
 refine ⟨fun q hq=>ZN hp hF.rng _ q hq,fun q hq=>?_,fun q hq q' hq'=>gP hp hF.rng hF.wl hF.rl hq q' hq'⟩;unfold SK at h;have:=y6.1 h q hq;simpa using this
theorem reads20_ev {dn cn:Bool} {l:List fC} {cs:List zW} {T U:Int} (h:N8 l cs T U) (xn:Bool) {ch:List Int} (hc:GL ch) (hl:ch.length<=9223372036854775807):evR 5 [.agg (xP dn l cn cs T U),.sl xn (ch.map u8C)] (.bool true):=by
 have haw:=D9 d9;obtain ⟨r,hr,hof0⟩:=of20_ev (dn:=dn) (cn:=cn) h;refine gQ OB rfl rfl ?_ rfl rfl;rcases hr with rfl | ⟨l1,l2,t1,u1,o1,o2,pe,rfl⟩
 ·have uy:=D9 hof0;simp only [evR,xP,ST] at uy haw ⊢;simp [OB,-J,-y4,-y3,y0,uy,haw]
 ·have uy:=D9 hof0;have s1:=nV o1;have s2:=nV o2;have D1:=zS o1;have D2:=zS o2;have hF:=simF D1 D2;have hb:mQ 0 0 (lA l1).length (lA l2).length t1 u1=0:=botE_zero ⟨pe.1,pe.2.1⟩ ⟨pe.2.2.1,pe.2.2.2⟩;have f1:=D9 (scompat_ev s1 s2 (i:=t1) (k:=u1) (fun _=>hF) (by dsimp only; rw [hb]; decide));dsimp only at f1;rw [hb] at f1;obtain ⟨v,f2,hp,sa,de⟩:=make_ev (ZW o1) false pe.1 pe.2.1 xn ch hc hl;obtain ⟨b,f3,hbw⟩:=small_ev (nI D1.fine D1.val) hp sa;have f3:=D9 f3;cases b with
  | false =>
   generalize SK (nxP (lA l1) (lA l2)) (rsP (lA l1) (lA l2)) (t1,u1)=q at *
   simp only [evR,GA,QD,xP,JG,qA v] at f1 f2 f3 uy haw ⊢;generalize lA l1=S1 at *
   generalize lA l2=S2 at *
   simp at f1;simp [OB,-J,-y4,-y3,y0,uy,haw,f1,f2,f3]
  | true =>
   obtain ⟨u,e,f4,he,hz⟩:=rreadv_ev (draft_rd o1 o2) D1.fine D2.fine D1.val D2.val ⟨pe.1,pe.2.1⟩ ⟨pe.2.2.1,pe.2.2.2⟩ sa de hp (hbw rfl);have f4:=D9 f4;have hz':SK (nxP (lA l1) (lA l2)) (rsP (lA l1) (lA l2)) (t1,u1)=true->e=0:=fun hq =>
    hz (reads_all D1 D2 (fineP_G hF pe hq) 3000 t1 v u1 (yp.2 ⟨_,yh (J0 (nxP (lA l1) (lA l2)) (t1,u1)),rfl⟩) hp (hbw rfl))
   clear hz;generalize SK (nxP (lA l1) (lA l2)) (rsP (lA l1) (lA l2)) (t1,u1)=q at *
   simp only [evR,GA,QD,xP,JG,qA v,qA u] at f1 f2 f3 f4 uy haw ⊢;clear D1 D2 hF s1 s2;generalize lA l1=S1 at *
   generalize lA l2=S2 at *
   simp at f1;rcases he with rfl | rfl
   ·simp [OB,-J,-y4,-y3,y0,uy,haw,f1,f2,f3,f4]
   ·cases q with
    | true=>exact absurd (hz' rfl) (by decide)
    | false=>simp [OB,-J,-y4,-y3,y0,uy,haw,f1,f2,f3,f4]
end Go.Proofs.YtbhbeakhognieaaGreat
