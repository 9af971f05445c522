/- A part of the proof. -/
import Derived.Test.YtjoaiabjebpbjaaGreatSt
set_option linter.all false
set_option maxRecDepth 100000
set_option maxHeartbeats 8000000
open Option renaming bind_some → V
open List renaming range_succ → J, map_map → y0, getElem?_eq_getElem → y4, getElem_mem → y5, getElem?_map → y8, drop_eq_getElem_cons → y9, getElem?_eq_some_iff → ym, length_map → yn, take_append_getElem → yr, getElem_of_mem → yy, mem_singleton → yL, getElem?_append_right → yP, getElem?_drop → yT
open Int renaming toNat_lt → y3
open Bool renaming and_eq_true → y7
namespace Go.Proofs.YtjoaiabjebpbjaaGreat
open Go
mutual
def Vl.cl:Vl->Vl
 | .mk k b i s d _ ks _ xs _ rs=>.mk k b i s d ks.isEmpty (Vl.cls ks) xs.isEmpty (Vl.cls xs) rs.isEmpty rs
def Vl.cls:List Vl->List Vl
 | []=>[]
 | v :: r=>Vl.cl v :: Vl.cls r
end
theorem Vl.cls_map:∀ l:List Vl,Vl.cls l=l.map Vl.cl
 | []=>by rw [Vl.cls]; rfl
 | v :: r=>by rw [Vl.cls,Vl.cls_map r]; rfl
theorem valC_cl (v:Vl):pA v.cl=[.int .i64 v.kind,.bool v.b,.int .i64 v.i,.str v.s,.int .i64 v.id,.sl v.keys.isEmpty ((v.keys.map Vl.cl).map pA),.sl v.items.isEmpty ((v.items.map Vl.cl).map pA),.sl v.rest.isEmpty (v.rest.map sK)]:=by
 cases v;rw [qA,Vl.cl,Vl.cls_map,Vl.cls_map];rfl
mutual
theorem Vl.cl_same:∀ v:Vl,v.cl.same v=true
 | .mk k b i s d kn ks xn xs rn rs=>by
  rw [Vl.cl,Vl.same,Vl.cls_same ks,Vl.cls_same xs]
  simp
theorem Vl.cls_same:∀ l:List Vl,Vl.sames (Vl.cls l) l=true
 | []=>by rw [Vl.cls,Vl.sames]
 | v :: r=>by rw [Vl.cls,Vl.sames,Vl.cl_same v,Vl.cls_same r]; rfl
end
mutual
theorem Vl.cl_ok:∀ v:Vl,v.ok->v.cl.ok
 | .mk k b i s d kn ks xn xs rn rs,h=>by
  rw [Vl.cl]
  rw [Vl.ok] at h ⊢
  obtain ⟨h1,h2,h3,h4,h5,h6⟩:=h
  exact ⟨by rw [Vl.cls_map]; simpa using h1,by rw [Vl.cls_map]; simpa using h2,h3,h4,Vl.cls_ok ks h5,Vl.cls_ok xs h6⟩
theorem Vl.cls_ok:∀ l:List Vl,Vl.oks l->Vl.oks (Vl.cls l)
 | [],_=>by rw [Vl.cls]; trivial
 | v :: r,h=>by
  rw [Vl.cls]
  rw [Vl.oks] at h ⊢
  exact ⟨Vl.cl_ok v h.1,Vl.cls_ok r h.2⟩
end
def FF (l:List Vl) (i:Nat):List Vl:=(l.take i).map Vl.cl++l.drop i
theorem S7 {l:List Vl} {i:Nat} {u:Vl} (h:l[i]?=some u):(FF l i)[i]?=some u:=by
 have fa:=(ym.1 h).1;unfold FF;rw [yP (by simp; omega),yT];simp;rw [show i + (i - min i l.length)=i from by omega,h]
theorem D7 {l:List Vl} {i:Nat} {u:Vl} (h:l[i]?=some u):(FF l i).set i u.cl=FF l (i + 1):=by
 obtain ⟨fa,hu⟩:=ym.1 h;unfold FF;rw [List.set_append_right _ _ (by simp; omega),y9 fa,hu];have e:i - ((l.take i).map Vl.cl).length=0:=by simp; omega
 rw [e,List.set_cons_zero,<- yr fa,hu];simp
theorem qY (l:List Vl) (i:Nat):(FF l i).length=l.length:=by
 unfold FF;simp;omega
theorem MX (l:List Vl):FF l l.length=l.map Vl.cl:=by simp [FF]
theorem N4 (l:List Vl):FF l 0=l:=by simp [FF]
theorem NX (l:List Vl) (i:Nat):iF (jA ((FF l i).map pA)) 8 0 l.length=some ((FF l i).map pA):=by
 have hf:ZD ((FF l i).map pA)=true:=tJ _ _ fun v=>by rw [qA]; simp [AV.free0]
 have:=WM (fM (FF l i)) hf
 rwa [yn,qY] at this
def ClRow (v:Vl) (r:List rA):Prop:=∃ a b c:An,r=[⟨.int .i64 v.kind,.no⟩,⟨.bool v.b,.no⟩,⟨.int .i64 v.i,.no⟩,⟨.str v.s,.no⟩,⟨.int .i64 v.id,.no⟩,⟨if v.keys.isEmpty then .sl true [] else .ref 7 2 8 0 v.keys.length v.keys.length,a⟩,⟨if v.items.isEmpty then .sl true [] else .ref 10 2 8 0 v.items.length v.items.length,b⟩,⟨.sl true [],c⟩]
structure I4 (v:Vl) (i j:Nat) (s:aA):Prop where
 e1:(s.env 1).v=.ptr 1 1 0
 m1:∃ r,s.mem 1 1=some r/\ClRow v r
 mky:v.keys.isEmpty=false->s.mem 7 2=some (jA ((FF v.keys i).map pA))
 mx:v.items.isEmpty=false->s.mem 10 2=some (jA ((FF v.items j).map pA))
 e2:(s.env 2).v=.ptr 2 1 0
 m2:s.mem 2 1=some [⟨.int .i64 0,.no⟩,⟨.bool false,.no⟩,⟨.int .i64 0,.no⟩,⟨.str ⟨#[]⟩,.no⟩,⟨.int .i64 0,.no⟩,⟨.sl true [],.ex⟩,⟨.sl true [],.ex⟩,⟨.sl true [],.ex⟩]
theorem K4 {rv:RV} (v:Vl) (hl:v.keys.length<=50) (hf:∀ u∈v.keys,sA 70 [.agg (pA u)] (.agg (pA u.cl))) (s:aA) (h:I4 v 0 0 s) (e19:(s.env 19).v=.int .i64 v.keys.length) (e20:(s.env 20).v=.int .i64 0) (k:Ex->aA->Option RV)
  (hk:∀ s',I4 v v.keys.length 0 s'->k (.exit 0) s'=some rv):kI kA tA ZE s k=some rv:=by
 cases nc:v.keys.isEmpty with
 | true =>
  have wd:v.keys=[]:=by simpa using nc
  rw [wd] at e19;simp at e19;refine uA ?_;simp [ZE,-V,-y3,-y0,J,e19,e20];obtain ⟨e1,m1,mk,mx,e2,m2⟩:=h;exact hk _ ⟨by simp [e1],m1,(fun h=>by rw [nc] at h; cases h),mx,by simp [e2],m2⟩
 | false =>
  refine bA v.keys.length (fun i s=>I4 v i 0 s/\(s.env 19).v=.int .i64 v.keys.length/\(s.env 20).v=.int .i64 i) (fun e s=>e=.exit 0/\I4 v v.keys.length 0 s) (fun i hi s kk h ih db=>?_) _ _ ⟨h,e19,e20⟩ (fun e s h=>by obtain ⟨rfl,h⟩:=h; exact hk s h);obtain ⟨⟨e1,⟨r,m1,a,b,c,rfl⟩,mk,mx,e2,m2⟩,e19,e20⟩:=h;have mk':=mk nc;simp only [nc] at m1;simp at m1;refine uA ?_;by_cases fa:i<v.keys.length
  ·have ga:(i:Int)<v.keys.length:=by omega
   have p1:v.keys[i]?=some v.keys[i]:=y4 fa;have ii:=hf _ (y5 fa);have hw:=LA (i:=i);generalize v.keys[i]=u at *
   have g1:((FF v.keys i).map pA)[i]?=some (pA u):=by rw [y8,S7 p1]; rfl
   have od:=MI (fM _) g1;have mb:=fun a=>PN (fM (FF v.keys i)) (k:=i) (by rw [yn,qY]; exact fa) (c:=pA u.cl) (ZZ _) a
   rw [<- List.map_set,D7 p1] at mb;simp only [sA,qA u,qA u.cl] at ii od mb;simp [ZE,-V,-y3,-y0,J,-SA,-xA,RA,OA,lA,zA,e1,m1,mk',e19,e20,fa,ga,od,ii,mb,hw];refine ih fa _ ⟨⟨by simp [e1],⟨_,by simp [m1]; rfl,a,b,c,by simp [nc]⟩,fun _=>by simp,fun h=>by simp [mx h],by simp [e2],by simp [m2]⟩,by simp [e19],by simp⟩
  ·have ga:¬ (i:Int)<v.keys.length:=by omega
   have ru:i=v.keys.length:=by omega
   subst ru;simp [ZE,-V,-y3,-y0,J,e19,e20];exact db _ _ ⟨rfl,by simp [e1],⟨_,m1,a,b,c,by simp [nc]⟩,mk,mx,by simp [e2],m2⟩
theorem clx_lp {rv:RV} (v:Vl) (hl:v.items.length<=50) (hf:∀ u∈v.items,sA 70 [.agg (pA u)] (.agg (pA u.cl))) (i:Nat) (s:aA) (h:I4 v i 0 s) (kz:(s.env 36).v=.int .i64 v.items.length) (e37:(s.env 37).v=.int .i64 0) (k:Ex->aA->Option RV)
  (hk:∀ s',I4 v i v.items.length s'->k (.exit 2) s'=some rv):kI kA tA rE s k=some rv:=by
 cases nc:v.items.isEmpty with
 | true =>
  have wd:v.items=[]:=by simpa using nc
  rw [wd] at kz;simp at kz;refine uA ?_;simp [rE,-V,-y3,-y0,J,kz,e37];obtain ⟨e1,m1,mk,mx,e2,m2⟩:=h;exact hk _ ⟨by simp [e1],m1,mk,(fun h=>by rw [nc] at h; cases h),by simp [e2],m2⟩
 | false =>
  refine bA v.items.length (fun j s=>I4 v i j s/\(s.env 36).v=.int .i64 v.items.length/\(s.env 37).v=.int .i64 j) (fun e s=>e=.exit 2/\I4 v i v.items.length s) (fun j hj s kk h ih db=>?_) _ _ ⟨h,kz,e37⟩ (fun e s h=>by obtain ⟨rfl,h⟩:=h; exact hk s h);obtain ⟨⟨e1,⟨r,m1,a,b,c,rfl⟩,mk,mx,e2,m2⟩,kz,e37⟩:=h;have mx':=mx nc;simp only [nc] at m1;simp at m1;refine uA ?_;by_cases fa:j<v.items.length
  ·have ga:(j:Int)<v.items.length:=by omega
   have p1:v.items[j]?=some v.items[j]:=y4 fa;have ii:=hf _ (y5 fa);have hw:=LA (i:=j);generalize v.items[j]=u at *
   have g1:((FF v.items j).map pA)[j]?=some (pA u):=by rw [y8,S7 p1]; rfl
   have od:=MI (fM _) g1;have mb:=fun a=>PN (fM (FF v.items j)) (k:=j) (by rw [yn,qY]; exact fa) (c:=pA u.cl) (ZZ _) a
   rw [<- List.map_set,D7 p1] at mb;simp only [sA,qA u,qA u.cl] at ii od mb;simp [rE,-V,-y3,-y0,J,-SA,-xA,RA,OA,lA,zA,e1,m1,mx',kz,e37,fa,ga,od,ii,mb,hw];refine ih fa _ ⟨⟨by simp [e1],⟨_,by simp [m1]; rfl,a,b,c,by simp [nc]⟩,fun h=>by simp [mk h],fun _=>by simp,by simp [e2],by simp [m2]⟩,by simp [kz],by simp⟩
  ·have ga:¬ (j:Int)<v.items.length:=by omega
   have ay:j=v.items.length:=by omega
   subst ay;simp [rE,-V,-y3,-y0,J,kz,e37];exact db _ _ ⟨rfl,by simp [e1],⟨_,m1,a,b,c,by simp [nc]⟩,mk,mx,by simp [e2],m2⟩
theorem good_max7 {x:gA} (h:aB x=true) (hk:x.kind=7):x.max<=50:=by
 unfold aB kF at h;simp [hk] at h;omega
theorem fit_parts {S:List gA} (hS:zP S) (hm:∀ x∈S,x.mems.length<=16) {n:Nat} {t:Int} {v:Vl} (h:RD S (n + 1) t v=true):v.keys.length<=50/\v.items.length<=50/\v.rest=[]/\(∀ u∈v.keys,∃ t',RD S n t' u=true)/\∀ u∈v.items,∃ t',RD S n t' u=true:=by
 rw [RD] at h;simp only [y7,Bool.not_eq_true'] at h;obtain ⟨ho,h⟩:=h;obtain ⟨h0,ra⟩:0<=t/\¬ (S.length:Int)<=t:=by
  simp [tB] at ho;omega
 have fa:t.toNat<S.length:=by omega
 have jb:S[t.toNat]∈S:=y5 _;rw [y4 fa] at h;generalize S[t.toNat]=x at *
 obtain ⟨ah,ak⟩:=hS x jb;have cj:=JE ah;have hw:=hm x jb;simp only [y7,decide_eq_true_eq] at h;obtain ⟨⟨hk,hz⟩,eb⟩:=h;unfold lJ at eb;unfold OC at hz;rcases kinds x.kind with e | e | e | e | e | e | e | e | e | e
 all_goals try simp only [e] at eb hk
 all_goals try simp [hk] at hz
 all_goals try simp at eb
 ·simp [hz]
 ·simp [hz]
 ·simp [hz]
 ·simp [hz]
 ·obtain ⟨⟨h1,h2⟩,h3⟩:=eb;have db:v.keys=[]:=by simp [hz]
  refine ⟨by simp [db],by omega,h2,by simp [db],fun u hu=>?_⟩;obtain ⟨j,hj,rfl⟩:=yy hu;exact ⟨_,NO h3 j x.mems[j] v.items[j] (y4 (by omega)) (y4 hj)⟩
 ·obtain ⟨m,u,g1,g2,g3,g4,g5⟩:=KN eb;have db:v.keys=[]:=by simp [hz]
  refine ⟨by simp [db],by rw [g2]; simp,by simpa using g4,by simp [db],fun w hw=>?_⟩;rw [g2] at hw;rw [yL.1 hw];exact ⟨_,g5⟩
 ·have h7:=good_max7 ah e;have db:v.keys=[]:=by simp [hz]
  refine ⟨by simp [db],by omega,by simp [hz],by simp [db],fun u hu=>⟨_,eb.2 u hu⟩⟩
 ·have h8:=LS ah e;obtain ⟨⟨⟨⟨q1,q2⟩,q3⟩,q4⟩,q5⟩:=eb;refine ⟨by omega,by omega,by simp [hz],fun u hu=>⟨_,q3 u hu⟩,fun u hu=>⟨_,q5 u hu⟩⟩
 ·have db:v.keys=[]:=by simp [hz]
  refine ⟨by simp [db],by omega,by simp [hz],by simp [db],fun u hu=>⟨_,eb.2 u hu⟩⟩
 ·exact absurd cj e
theorem FT (l:List (List AV)) (k:Nat):(jA l).map (rA.strip k)=jA l:=by
 unfold jA;rw [y0];rfl
theorem clone_ev {S:List gA} (hS:zP S) (hm:∀ x∈S,x.mems.length<=16):∀ (n:Nat) (t:Int) (v:Vl),RD S n t v=true->sA 70 [.agg (pA v)] (.agg (pA v.cl)):=by
 intro n
 induction n with
 | zero=>intro t v h; simp [RD] at h
 | succ n ih =>
  intro t v h;obtain ⟨h1,h2,h3,h4,h5⟩:=fit_parts hS hm h;have uw:∀ u∈v.keys,sA 70 [.agg (pA u)] (.agg (pA u.cl)):=fun u hu=>by obtain ⟨t',ht⟩:=h4 u hu; exact ih t' u ht
  have ak:∀ u∈v.items,sA 70 [.agg (pA u)] (.agg (pA u.cl)):=fun u hu=>by obtain ⟨t',ht⟩:=h5 u hu; exact ih t' u ht
  have rest:∀ (s1:aA),I4 v v.keys.length 0 s1->C.run (BI kA tA) (aN kA tA) (.seq (.seq (.reg [⟨(.some 34),(.faddr 6 (.t 1)),.none⟩,⟨(.some 35),(.load .any .false 1 (.t 34)),.none⟩,⟨(.some 36),(.len .false (.t 35)),.none⟩,⟨(.some 37),(.mv (.c (.int .i64 0))),.none⟩]) (.block 2 (.loop rE))) (.seq (.reg [⟨(.some 51),(.load .any .true 8 (.t 1)),.none⟩,⟨.none,(.store .any .true 8 (.t 2) (.t 51)),.none⟩]) .ret)) s1 (fin jD none)=some (.agg (pA v.cl),none):=fun s1 g1=>by
   have ae:jD.res=[.cell 2 true 8]:=rfl;obtain ⟨e1,⟨r,m1,a,b,c,rfl⟩,mk,mx,e2,m2⟩:=g1;cases gj:v.items.isEmpty with
   | true =>
    have ZN:v.items=[]:=by simpa using gj
    simp only [gj,if_true] at m1;simp [-V,-y3,-y0,J,e1,m1];refine clx_lp v h2 ak v.keys.length _ ⟨by simp [e1],⟨_,by simp [m1]; rfl,a,b,c,by simp [ZN]⟩,fun h=>by simp [mk h],(fun h=>by rw [gj] at h; cases h),by simp [e2],by simp [m2]⟩ ?_ ?_ _ (fun s2 g2=>?_)
    ·simp [ZN]
    ·simp
    ·obtain ⟨e1,⟨r,m1,a,b,c,rfl⟩,mk,mx,e2,m2⟩:=g2;rw [valC_cl,h3];cases nc:v.keys.isEmpty with
     | true =>
      have wd:v.keys=[]:=by simpa using nc
      simp only [gj,nc,if_true] at m1;simp [-V,-y3,-y0,J,e1,m1,e2,m2,fin,ae,ZN,wd]
     | false =>
      have mk':=mk nc;have ed:=NX v.keys v.keys.length;rw [MX] at mk' ed;have wd:¬ v.keys=[]:=by simpa using nc
      simp only [gj,nc] at m1;simp at m1;generalize (v.keys.map Vl.cl).map pA=KC at *
      simp [-V,-y3,-y0,J,-SA,-xA,RA,OA,lA,zA,e1,m1,e2,m2,fin,ae,ZN,wd,nc,mk',ed]
   | false =>
    have ZN:¬ v.items=[]:=by simpa using gj
    simp only [gj] at m1;simp at m1;simp [-V,-y3,-y0,J,e1,m1];refine clx_lp v h2 ak v.keys.length _ ⟨by simp [e1],⟨_,by simp [m1]; rfl,a,b,c,by simp [ZN]⟩,fun h=>by simp [mk h],fun h=>by simp [mx h],by simp [e2],by simp [m2]⟩ ?_ ?_ _ (fun s2 g2=>?_)
    ·simp
    ·simp
    ·obtain ⟨e1,⟨r,m1,a,b,c,rfl⟩,mk,mx,e2,m2⟩:=g2;rw [valC_cl,h3];have mx':=mx gj;have iu:=NX v.items v.items.length;rw [MX] at mx' iu;cases nc:v.keys.isEmpty with
     | true =>
      have wd:v.keys=[]:=by simpa using nc
      simp only [gj,nc,if_true] at m1;simp at m1;generalize (v.items.map Vl.cl).map pA=XC at *
      simp [-V,-y3,-y0,J,-SA,-xA,RA,OA,lA,zA,e1,m1,e2,m2,fin,ae,ZN,gj,wd,mx',iu]
     | false =>
      have mk':=mk nc;have ed:=NX v.keys v.keys.length;rw [MX] at mk' ed;have wd:¬ v.keys=[]:=by simpa using nc
      simp only [gj,nc] at m1;simp at m1;generalize (v.keys.map Vl.cl).map pA=KC at *
      generalize (v.items.map Vl.cl).map pA=XC at *
      simp [-V,-y3,-y0,J,-SA,-xA,RA,OA,lA,zA,e1,m1,e2,m2,fin,ae,ZN,gj,wd,nc,mk',ed,mx',iu]
  refine wA (c:=jD) rfl rfl ?_;rw [qA,h3];have r0:PB 24 0=true:=by decide
  have hrk:PB 120 v.keys.length=true:=by rw [CA]; omega
  have hrx:PB 120 v.items.length=true:=by rw [CA]; omega
  have qk:=fM v.keys;have qx:=fM v.items;have r1:PB 120 0=true:=by decide
  cases nc:v.keys.isEmpty with
  | true =>
   have wd:v.keys=[]:=by simpa using nc
   cases gj:v.items.isEmpty with
   | true =>
    have ZN:v.items=[]:=by simpa using gj
    simp [jD,-V,-y3,-y0,J,wd,ZN,r0,r1,hrk,hrx,qk,qx];refine K4 v h1 uw _ ⟨?_,?_,fun h=>?_,fun h=>?_,?_,?_⟩ ?_ ?_ _ (fun s1 g1=>rest s1 g1)
    ·simp
    ·refine ⟨_,(by simp [wd,ZN]; rfl),?_⟩;exact ⟨_,_,_,by simp [wd,ZN]; exact ⟨rfl,rfl,rfl⟩⟩
    ·rw [nc] at h; cases h
    ·rw [gj] at h; cases h
    ·simp
    ·simp [rB]
    ·simp [wd]
    ·simp
   | false =>
    have ZN:¬ v.items=[]:=by simpa using gj
    simp [jD,-V,-y3,-y0,J,wd,ZN,r0,r1,hrk,hrx,qk,qx];refine K4 v h1 uw _ ⟨?_,?_,fun h=>?_,fun h=>?_,?_,?_⟩ ?_ ?_ _ (fun s1 g1=>rest s1 g1)
    ·simp
    ·refine ⟨_,(by simp [wd,ZN]; rfl),?_⟩;exact ⟨_,_,_,by simp [wd,ZN]; exact ⟨rfl,rfl,rfl⟩⟩
    ·rw [nc] at h; cases h
    ·rw [N4]; simp [FT]
    ·simp
    ·simp [rB]
    ·simp [wd]
    ·simp
  | false =>
   have wd:¬ v.keys=[]:=by simpa using nc
   cases gj:v.items.isEmpty with
   | true =>
    have ZN:v.items=[]:=by simpa using gj
    simp [jD,-V,-y3,-y0,J,wd,ZN,r0,r1,hrk,hrx,qk,qx];refine K4 v h1 uw _ ⟨?_,?_,fun h=>?_,fun h=>?_,?_,?_⟩ ?_ ?_ _ (fun s1 g1=>rest s1 g1)
    ·simp
    ·refine ⟨_,(by simp [wd,ZN]; rfl),?_⟩;exact ⟨_,_,_,by simp [wd,ZN]; exact ⟨rfl,rfl,rfl⟩⟩
    ·rw [N4]; simp [FT]
    ·rw [gj] at h; cases h
    ·simp
    ·simp [rB]
    ·simp [wd]
    ·simp
   | false =>
    have ZN:¬ v.items=[]:=by simpa using gj
    simp [jD,-V,-y3,-y0,J,wd,ZN,r0,r1,hrk,hrx,qk,qx];refine K4 v h1 uw _ ⟨?_,?_,fun h=>?_,fun h=>?_,?_,?_⟩ ?_ ?_ _ (fun s1 g1=>rest s1 g1)
    ·simp
    ·refine ⟨_,(by simp [wd,ZN]; rfl),?_⟩;exact ⟨_,_,_,by simp [wd,ZN]; exact ⟨rfl,rfl,rfl⟩⟩
    ·rw [N4]; simp [FT]
    ·rw [N4]; simp [FT]
    ·simp
    ·simp [rB]
    ·simp [wd]
    ·simp
noncomputable def CH (S:List gA) (t:Int):Int:=if AB S≠0 then AB S else if t<0\/(S.length:Int)<=t then 4 else 0
theorem AQ (s:PM) (hs:s.fine) (nb:s.d64) (t:Int):sA 65 [.agg (JA s),.int .i64 t] (.int .i64 (CH s.types t)):=by
 have hr:=DT s hs nb;simp only [sA,JA] at hr;refine wA (c:=nF) rfl rfl ?_;unfold CH;by_cases h0:AB s.types=0
 ·rw [h0] at hr ⊢;by_cases c1:t<0
  ·simp [nF,-V,-y3,-y0,J,JA,hr,c1]
  ·by_cases c2:(s.types.length:Int)<=t <;> simp [nF,-V,-y3,-y0,J,JA,hr,c1,c2]
 ·simp [nF,-V,-y3,-y0,J,JA,hr,h0]
theorem tX (s:PM) (hs:s.fine) (nb:s.d64) (t:Int):sA 68 [.agg (JA s),.int .i64 t] (.int .i64 (CH s.types t)):=by
 have hr:=QV s hs nb;simp only [sA,JA] at hr;refine wA (c:=nK) rfl rfl ?_;unfold CH;by_cases h0:AB s.types=0
 ·rw [h0] at hr ⊢;by_cases c1:t<0
  ·simp [nK,-V,-y3,-y0,J,JA,hr,c1]
  ·by_cases c2:(s.types.length:Int)<=t <;> simp [nK,-V,-y3,-y0,J,JA,hr,c1,c2]
 ·simp [nK,-V,-y3,-y0,J,JA,hr,h0]
def CW:AV:=.agg [.int .i64 0,.bool false,.int .i64 0,.str ⟨#[]⟩,.int .i64 0,.sl true [],.sl true [],.sl true []]
def leaR (e:bO) (v:AV):AV:=if e.known then (if e.long then .tup [CW,.int .i64 3] else .tup [v,.int .i64 0]) else .tup [CW,.int .i64 10]
def sizR (e:bO):AV:=if e.known then (if e.long then .tup [.int .i64 4097,.int .i64 0] else .tup [.int .i64 e.p.size,.int .i64 0]) else .tup [.int .i64 0,.int .i64 10]
theorem least_err (s:PM) (hs:s.fine) (nb:s.d64) (t:Int) (h:CH s.types t≠0):sA 30 [.agg (JA s),.int .i64 t] (.tup [CW,.int .i64 (CH s.types t)])/\sA 31 [.agg (JA s),.int .i64 t] (.tup [CW,.int .i64 (CH s.types t)])/\sA 25 [.agg (JA s),.int .i64 t] (.tup [.int .i64 0,.int .i64 (CH s.types t)])/\sA 26 [.agg (JA s),.int .i64 t] (.tup [.int .i64 0,.int .i64 (CH s.types t)]):=by
 have h1:=AQ s hs nb t;have h2:=tX s hs nb t;generalize CH s.types t=e at *
 have h3:sA 67 [.agg (JA s),.int .i64 t] (.tup [.agg (sB .unk),.int .i64 e]):=by
  simp only [sA,JA] at h2;rw [lH];refine wA (c:=QG) rfl rfl ?_;simp [QG,-V,-y3,-y0,J,JA,h2,h]
 rw [lH] at h3;simp only [sA,JA] at h1 h3;refine ⟨?_,?_,?_,?_⟩
 ·refine wA (c:=HD) rfl rfl ?_;simp [HD,-V,-y3,-y0,J,JA,h1,h,CW]
 ·refine wA (c:=DE) rfl rfl ?_;simp [DE,-V,-y3,-y0,J,JA,h3,h,CW]
 ·refine wA (c:=fE) rfl rfl ?_;simp [fE,-V,-y3,-y0,J,JA,h1,h]
 ·refine wA (c:=IF) rfl rfl ?_;simp [IF,-V,-y3,-y0,J,JA,h3,h]
theorem B7 (s:PM) (hs:s.fine) (nb:s.d64) (hS:PD s.types) (pb:∀ x∈s.types,x.mems.length<=12) (t:Int) (h:CH s.types t=0):∃ e:bO,(e.known=true->e.long=false->e.v.ok)/\sA 30 [.agg (JA s),.int .i64 t] (leaR e (.agg (pA e.v.cl)))/\sA 31 [.agg (JA s),.int .i64 t] (leaR e (.agg (pA e.v)))/\sA 25 [.agg (JA s),.int .i64 t] (sizR e)/\sA 26 [.agg (JA s),.int .i64 t] (sizR e):=by
 have h1:=AQ s hs nb t;have h2:=tX s hs nb t;rw [h] at h1 h2;obtain ⟨h0,fa⟩:0<=t/\t<s.types.length:=by
  unfold CH at h;split at h
  ·rename_i h'; exact absurd h h'
  ·split at h
   ·cases h
   ·omega
 have hl:=lists_ev s.nl hS pb;have he:=entries_ev s.nl hS pb;rw [both_tabs hS] at hl;have hN:t.toNat<s.types.length:=by omega
 have g:=SN (xM s.types (s.types.length + 1)) hN;have sj:=(FZ hS (s.types.length + 1) 0 (by omega)).1 t.toNat hN;have sj:rH s.types t.toNat (xM s.types (s.types.length + 1) t.toNat):=sj;have jd:(xM s.types (s.types.length + 1) t.toNat).known=true->(xM s.types (s.types.length + 1) t.toNat).long=false->(xM s.types (s.types.length + 1) t.toNat).v.ok/\sA 70 [.agg (pA (xM s.types (s.types.length + 1) t.toNat).v)] (.agg (pA (xM s.types (s.types.length + 1) t.toNat).v.cl)):=fun k1 k2=>by
  obtain ⟨_,_,q3,q4,_⟩:=sj.v k1 k2;exact ⟨q4,clone_ev hS.good (fun x hx=>(hS.win x hx).few) _ _ _ q3⟩
 generalize zF s.types.length (xM s.types (s.types.length + 1))=T at *
 generalize xM s.types (s.types.length + 1) t.toNat=e at *
 have hf:sA 67 [.agg (JA s),.int .i64 t] (if e.known then .tup [.agg (sB e),.int .i64 0] else .tup [.agg (sB .unk),.int .i64 10]):=by
  simp only [sA,JA,sB] at h2 he g;refine wA (c:=QG) rfl rfl ?_;rw [lH];cases hk:e.known with
  | true =>
   rw [hk] at g;simp [QG,-V,-y3,-y0,J,JA,h2,he,g,h0,sB,hk]
  | false =>
   rw [hk] at g;simp [QG,-V,-y3,-y0,J,JA,h2,he,g,h0]
 rw [lH] at hf;simp only [sA,JA,sB] at h1 hl g hf;refine ⟨e,fun k1 k2=>(jd k1 k2).1,?_,?_,?_,?_⟩
 ·refine wA (c:=HD) rfl rfl ?_;unfold leaR;cases hk:e.known with
  | false =>
   rw [hk] at g;simp [HD,-V,-y3,-y0,J,JA,h1,hl,g,h0,CW]
  | true =>
   cases ec:e.long with
   | true =>
    rw [hk,ec] at g;simp [HD,-V,-y3,-y0,J,JA,h1,hl,g,h0,CW]
   | false =>
    obtain ⟨_,hc⟩:=jd hk ec;rw [hk,ec] at g;simp only [sA,qA e.v,qA e.v.cl] at hc ⊢;simp [HD,-V,-y3,-y0,J,JA,h1,hl,g,h0,hc]
 ·refine wA (c:=DE) rfl rfl ?_;unfold leaR;cases hk:e.known with
  | false =>
   rw [hk] at hf;simp at hf;simp [DE,-V,-y3,-y0,J,JA,hf,CW]
  | true =>
   rw [hk] at hf;simp at hf;cases ec:e.long with
   | true =>
    rw [ec] at hf;simp [DE,-V,-y3,-y0,J,JA,hf,CW]
   | false =>
    rw [ec] at hf;rw [qA];simp [DE,-V,-y3,-y0,J,JA,hf]
 ·refine wA (c:=fE) rfl rfl ?_;unfold sizR;cases hk:e.known with
  | false =>
   rw [hk] at g;simp [fE,-V,-y3,-y0,J,JA,h1,hl,g,h0]
  | true =>
   cases ec:e.long with
   | true =>
    rw [hk,ec] at g;simp [fE,-V,-y3,-y0,J,JA,h1,hl,g,h0]
   | false =>
    rw [hk,ec] at g;simp [fE,-V,-y3,-y0,J,JA,h1,hl,g,h0]
 ·refine wA (c:=IF) rfl rfl ?_;unfold sizR;cases hk:e.known with
  | false =>
   rw [hk] at hf;simp at hf;simp [IF,-V,-y3,-y0,J,JA,hf]
  | true =>
   rw [hk] at hf;simp at hf;cases ec:e.long with
   | true =>
    rw [ec] at hf;simp [IF,-V,-y3,-y0,J,JA,hf]
   | false =>
    rw [ec] at hf;simp [IF,-V,-y3,-y0,J,JA,hf]
theorem cX:sA 21 [] (.bool true):=awk_knows.run 3000 (by kernel_rfl)
theorem mixed:Tryz.prog.follows .mixedOrders=true:=by kernel_rfl
end Go.Proofs.YtjoaiabjebpbjaaGreat
