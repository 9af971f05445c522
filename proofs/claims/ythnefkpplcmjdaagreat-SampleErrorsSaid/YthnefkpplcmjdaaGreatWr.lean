/- A part of the proof. -/
import Derived.Test.YthnefkpplcmjdaaGreatWq
set_option linter.all false
set_option maxRecDepth 100000
set_option maxHeartbeats 8000000
open Option renaming bind_some → J
open List renaming range_succ → y0, map_map → y3, getElem?_eq_getElem → y7, getElem_mem → y8, getElem?_map → yb, drop_eq_getElem_cons → yc, getElem?_eq_some_iff → yn, length_map → yo, take_append_getElem → yx, getElem?_drop → yL, getElem?_append_right → yN, getElem_of_mem → yO
open Int renaming toNat_lt → y4
open Bool renaming and_eq_true → y9
namespace Go.Proofs.YthnefkpplcmjdaaGreat
open Go
mutual
def Vl.cl:Vl->Vl
 |.mk k b i s d _ ks _ xs _ rs=>.mk k b i s d ks.isEmpty (Vl.cls ks) xs.isEmpty (Vl.cls xs) rs.isEmpty rs
def Vl.cls:List Vl->List Vl
 | []=>[]
 |v::r=>Vl.cl v::Vl.cls r
end
theorem Vl.XB:∀l:List Vl,Vl.cls l=l.map Vl.cl
 | []=>by rw[Vl.cls];rfl
 |v::r=>by rw[Vl.cls,Vl.XB r];rfl
theorem Ey (v:Vl):TC v.cl=[.int .i64 v.kind,.bool v.b,.int .i64 v.i,.str v.s,.int .i64 v.id,.sl v.keys.isEmpty ((v.keys.map Vl.cl).map TC),.sl v.items.isEmpty ((v.items.map Vl.cl).map TC),.sl v.rest.isEmpty (v.rest.map qN)]:=by
 cases v;rw[nC,Vl.cl,Vl.XB,Vl.XB];rfl
def cH (l:List Vl)(i:Nat):List Vl:=(l.take i).map Vl.cl++l.drop i
theorem S7 {l:List Vl}{i:Nat}{u:Vl}(h:l[i]?=some u):(cH l i)[i]?=some u:=by
 have fa:=(yn.1 h).1;unfold cH;rw[yN (by simp;omega),yL];simp;rw[show i+(i-min i l.length)=i from by omega,h]
theorem D7 {l:List Vl}{i:Nat}{u:Vl}(h:l[i]?=some u):(cH l i).set i u.cl=cH l (i+1):=by
 obtain⟨fa,hu⟩:=yn.1 h;unfold cH;rw[List.set_append_right _ _ (by simp;omega),yc fa,hu];have e:i-((l.take i).map Vl.cl).length=0:=by simp;omega
 rw[e,List.set_cons_zero,<- yx fa,hu];simp
theorem LY (l:List Vl)(i:Nat):(cH l i).length=l.length:=by
 unfold cH;simp;omega
theorem KY (l:List Vl):cH l l.length=l.map Vl.cl:=by simp[cH]
theorem E5 (l:List Vl):cH l 0=l:=by simp[cH]
theorem JY (l:List Vl)(i:Nat):bH (HC ((cH l i).map TC)) 8 0 l.length=some ((cH l i).map TC):=by
 have hf:WM ((cH l i).map TC)=true:=qP _ _ fun v=>by rw[nC];simp[AV.iA]
 have:=WS (NO (cH l i)) hf
 rwa [yo,LY]at this
def ClRow (v:Vl)(r:List WC):Prop:=∃a b c:An,r=[⟨.int .i64 v.kind,.no⟩,⟨.bool v.b,.no⟩,⟨.int .i64 v.i,.no⟩,⟨.str v.s,.no⟩,⟨.int .i64 v.id,.no⟩,⟨if v.keys.isEmpty then .sl true []else .ref 7 2 8 0 v.keys.length v.keys.length,a⟩,⟨if v.items.isEmpty then .sl true []else .ref 10 2 8 0 v.items.length v.items.length,b⟩,⟨.sl true [],c⟩]
structure X4 (v:Vl)(i j:Nat)(s:OC):Prop where
 e1:(s.env 1).v=.ptr 1 1 0
 m1:∃r,s.mem 1 1=some r/\ClRow v r
 mky:v.keys.isEmpty=false->s.mem 7 2=some (HC ((cH v.keys i).map TC))
 mx:v.items.isEmpty=false->s.mem 10 2=some (HC ((cH v.items j).map TC))
 e2:(s.env 2).v=.ptr 2 1 0
 m2:s.mem 2 1=some [⟨.int .i64 0,.no⟩,⟨.bool false,.no⟩,⟨.int .i64 0,.no⟩,⟨.str ⟨#[]⟩,.no⟩,⟨.int .i64 0,.no⟩,⟨.sl true [],.ex⟩,⟨.sl true [],.ex⟩,⟨.sl true [],.ex⟩]
theorem d5 {rv:RV}(v:Vl)(hl:v.keys.length<=50)(hf:∀u∈v.keys,IC 101 [.agg (TC u)] (.agg (TC u.cl)))(s:OC)(h:X4 v 0 0 s)(e19:(s.env 19).v=.int .i64 v.keys.length)(e20:(s.env 20).v=.int .i64 0)(k:Ex->OC->Option RV)
  (hk:∀s',X4 v v.keys.length 0 s'->k (.exit 0) s'=some rv):OL dD PC SG s k=some rv:=by
 cases uc:v.keys.isEmpty with
 |true =>
  have nd:v.keys=[]:=by simpa using uc
  rw[nd]at e19;simp at e19;refine EC ?_;simp[SG,-J,-y4,-y3,y0,e19,e20];obtain⟨e1,m1,mk,mx,e2,m2⟩:=h;exact hk _ ⟨by simp[e1],m1,(fun h=>by rw[uc]at h;cases h),mx,by simp[e2],m2⟩
 |false =>
  refine ZC v.keys.length (fun i s=>X4 v i 0 s/\(s.env 19).v=.int .i64 v.keys.length/\(s.env 20).v=.int .i64 i) (fun e s=>e=.exit 0/\X4 v v.keys.length 0 s) (fun i hi s kk h ih wb=>?_) _ _ ⟨h,e19,e20⟩ (fun e s h=>by obtain⟨rfl,h⟩:=h;exact hk s h);obtain⟨⟨e1,⟨r,m1,a,b,c,rfl⟩,mk,mx,e2,m2⟩,e19,e20⟩:=h;have az:=mk uc;simp only[uc]at m1;simp at m1;refine EC ?_;by_cases fa:i<v.keys.length
  ·have ga:(i:Int)<v.keys.length:=by omega
   have p1:v.keys[i]?=some v.keys[i]:=y7 fa;have oh:=hf _ (y8 fa);have hw:=cD (i:=i);generalize v.keys[i]=u at *
   have g1:((cH v.keys i).map TC)[i]?=some (TC u):=by rw[yb,S7 p1];rfl
   have af:=dM (NO _) g1;have tb:=fun a=>wS (NO (cH v.keys i)) (k:=i) (by rw[yo,LY];exact fa) (c:=TC u.cl) (Q1 _) a
   rw[<- List.map_set,D7 p1]at tb;simp only[IC,nC u,nC u.cl]at oh af tb;simp[SG,-J,-y4,-y3,y0,-kD,-MC,zD,xD,wD,eD,e1,m1,az,e19,e20,fa,ga,af,oh,tb,hw];refine ih fa _ ⟨⟨by simp[e1],⟨_,by simp[m1];rfl,a,b,c,by simp[uc]⟩,fun _=>by simp,fun h=>by simp[mx h],by simp[e2],by simp[m2]⟩,by simp[e19],by simp⟩
  ·have ga:¬ (i:Int)<v.keys.length:=by omega
   have wu:i=v.keys.length:=by omega
   subst wu;simp[SG,-J,-y4,-y3,y0,e19,e20];exact wb _ _ ⟨rfl,by simp[e1],⟨_,m1,a,b,c,by simp[uc]⟩,mk,mx,by simp[e2],m2⟩
theorem Hd {rv:RV}(v:Vl)(hl:v.items.length<=50)(hf:∀u∈v.items,IC 101 [.agg (TC u)] (.agg (TC u.cl)))(i:Nat)(s:OC)(h:X4 v i 0 s)(dw:(s.env 36).v=.int .i64 v.items.length)(tz:(s.env 37).v=.int .i64 0)(k:Ex->OC->Option RV)
  (hk:∀s',X4 v i v.items.length s'->k (.exit 2) s'=some rv):OL dD PC qG s k=some rv:=by
 cases uc:v.items.isEmpty with
 |true =>
  have nd:v.items=[]:=by simpa using uc
  rw[nd]at dw;simp at dw;refine EC ?_;simp[qG,-J,-y4,-y3,y0,dw,tz];obtain⟨e1,m1,mk,mx,e2,m2⟩:=h;exact hk _ ⟨by simp[e1],m1,mk,(fun h=>by rw[uc]at h;cases h),by simp[e2],m2⟩
 |false =>
  refine ZC v.items.length (fun j s=>X4 v i j s/\(s.env 36).v=.int .i64 v.items.length/\(s.env 37).v=.int .i64 j) (fun e s=>e=.exit 2/\X4 v i v.items.length s) (fun j hj s kk h ih wb=>?_) _ _ ⟨h,dw,tz⟩ (fun e s h=>by obtain⟨rfl,h⟩:=h;exact hk s h);obtain⟨⟨e1,⟨r,m1,a,b,c,rfl⟩,mk,mx,e2,m2⟩,dw,tz⟩:=h;have mx':=mx uc;simp only[uc]at m1;simp at m1;refine EC ?_;by_cases fa:j<v.items.length
  ·have ga:(j:Int)<v.items.length:=by omega
   have p1:v.items[j]?=some v.items[j]:=y7 fa;have oh:=hf _ (y8 fa);have hw:=cD (i:=j);generalize v.items[j]=u at *
   have g1:((cH v.items j).map TC)[j]?=some (TC u):=by rw[yb,S7 p1];rfl
   have af:=dM (NO _) g1;have tb:=fun a=>wS (NO (cH v.items j)) (k:=j) (by rw[yo,LY];exact fa) (c:=TC u.cl) (Q1 _) a
   rw[<- List.map_set,D7 p1]at tb;simp only[IC,nC u,nC u.cl]at oh af tb;simp[qG,-J,-y4,-y3,y0,-kD,-MC,zD,xD,wD,eD,e1,m1,mx',dw,tz,fa,ga,af,oh,tb,hw];refine ih fa _ ⟨⟨by simp[e1],⟨_,by simp[m1];rfl,a,b,c,by simp[uc]⟩,fun h=>by simp[mk h],fun _=>by simp,by simp[e2],by simp[m2]⟩,by simp[dw],by simp⟩
  ·have ga:¬ (j:Int)<v.items.length:=by omega
   have xu:j=v.items.length:=by omega
   subst xu;simp[qG,-J,-y4,-y3,y0,dw,tz];exact wb _ _ ⟨rfl,by simp[e1],⟨_,m1,a,b,c,by simp[uc]⟩,mk,mx,by simp[e2],m2⟩
theorem Mu {x:BC}(h:IE x=true)(hk:x.kind=7):x.max<=50:=by
 unfold IE wN at h;simp[hk]at h;omega
theorem Xu {S:List BC}(hS:NQ S)(hm:∀x∈S,x.qA.length<=16){n:Nat}{t:Int}{v:Vl}(h:EF S (n+1) t v=true):v.keys.length<=50/\v.items.length<=50/\v.rest=[]/\(∀u∈v.keys,∃t',EF S n t' u=true)/\∀u∈v.items,∃t',EF S n t' u=true:=by
 rw[EF]at h;simp only[y9,Bool.not_eq_true']at h;obtain⟨ho,h⟩:=h;obtain⟨h0,sa⟩:0<=t/\¬(S.length:Int)<=t:=by
  simp[mD]at ho;omega
 have fa:t.toNat<S.length:=by omega
 have gc:S[t.toNat]∈S:=y8 _;rw[y7 fa]at h;generalize S[t.toNat]=x at *
 obtain⟨dh,gj⟩:=hS x gc;have wl:=dH dh;have hw:=hm x gc;simp only[y9,decide_eq_true_eq]at h;obtain⟨⟨hk,hz⟩,wa⟩:=h;unfold aO at wa;unfold WF at hz;rcases kinds x.kind with e|e|e|e|e|e|e|e|e|e
 all_goals try simp only[e]at wa hk
 all_goals try simp[hk]at hz
 all_goals try simp at wa
 ·simp[hz]
 ·simp[hz]
 ·simp[hz]
 ·simp[hz]
 ·obtain ⟨⟨h1,h2⟩,h3⟩:=wa;have wb:v.keys=[]:=by simp [hz]
  refine⟨by simp[wb],by omega,h2,by simp[wb],fun u hu=>?_⟩;obtain⟨j,hj,rfl⟩:=yO hu;exact⟨_,EQ h3 j x.qA[j] v.items[j] (y7 (by omega)) (y7 hj)⟩
 ·obtain ⟨m,u,g1,g2,g3,g4,g5⟩:=kP wa;have wb:v.keys=[]:=by simp [hz]
  refine⟨by simp[wb],by rw[g2];simp,by simpa using g4,by simp[wb],fun w hw=>?_⟩;rw[g2]at hw;rw[List.mem_singleton.1 hw];exact⟨_,g5⟩
 ·have h7:=Mu dh e;have wb:v.keys=[]:=by simp [hz]
  refine⟨by simp[wb],by omega,by simp[hz],by simp[wb],fun u hu=>⟨_,wa.2 u hu⟩⟩
 ·have h8:=cU dh e;obtain⟨⟨⟨⟨q1,q2⟩,q3⟩,q4⟩,q5⟩:=wa;refine⟨by omega,by omega,by simp[hz],fun u hu=>⟨_,q3 u hu⟩,fun u hu=>⟨_,q5 u hu⟩⟩
 ·have wb:v.keys=[]:=by simp [hz]
  refine⟨by simp[wb],by omega,by simp[hz],by simp[wb],fun u hu=>⟨_,wa.2 u hu⟩⟩
 ·exact absurd wl e
theorem fV (l:List (List AV))(k:Nat):(HC l).map (WC.strip k)=HC l:=by
 unfold HC;rw[y3];rfl
theorem Fd {S:List BC}(hS:NQ S)(hm:∀x∈S,x.qA.length<=16):∀(n:Nat)(t:Int)(v:Vl),EF S n t v=true->IC 101 [.agg (TC v)] (.agg (TC v.cl)):=by
 intro n
 induction n with
 |zero=>intro t v h;simp[EF]at h
 |succ n ih =>
  intro t v h;obtain⟨h1,h2,h3,h4,h5⟩:=Xu hS hm h;have kt:∀u∈v.keys,IC 101 [.agg (TC u)] (.agg (TC u.cl)):=fun u hu=>by obtain⟨t',ht⟩:=h4 u hu;exact ih t' u ht
  have gj:∀u∈v.items,IC 101 [.agg (TC u)] (.agg (TC u.cl)):=fun u hu=>by obtain⟨t',ht⟩:=h5 u hu;exact ih t' u ht
  have rest:∀(s1:OC),X4 v v.keys.length 0 s1->C.run (jU dD PC) (Hu dD PC) (.seq (.seq (.reg [⟨(.some 34),(.tB 6 (.t 1)),.none⟩,⟨(.some 35),(.load .any .false 1 (.t 34)),.none⟩,⟨(.some 36),(.len .false (.t 35)),.none⟩,⟨(.some 37),(.mv (.c (.int .i64 0))),.none⟩]) (.block 2 (.loop qG))) (.seq (.reg [⟨(.some 51),(.load .any .true 8 (.t 1)),.none⟩,⟨.none,(.store .any .true 8 (.t 2) (.t 51)),.none⟩]) .ret)) s1 (fin sF none)=some (.agg (TC v.cl),none):=fun s1 g1=>by
   have pe:sF.res=[.cell 2 true 8]:=rfl;obtain⟨e1,⟨r,m1,a,b,c,rfl⟩,mk,mx,e2,m2⟩:=g1;cases xh:v.items.isEmpty with
   |true =>
    have gg:v.items=[]:=by simpa using xh
    simp only[xh,if_true]at m1;simp[-J,-y4,-y3,y0,e1,m1];refine Hd v h2 gj v.keys.length _ ⟨by simp[e1],⟨_,by simp[m1];rfl,a,b,c,by simp[gg]⟩,fun h=>by simp[mk h],(fun h=>by rw[xh]at h;cases h),by simp[e2],by simp[m2]⟩ ?_ ?_ _ (fun s2 g2=>?_)
    ·simp[gg]
    ·simp
    ·obtain ⟨e1,⟨r,m1,a,b,c,rfl⟩,mk,mx,e2,m2⟩:=g2;rw [Ey,h3];cases uc:v.keys.isEmpty with
     |true =>
      have nd:v.keys=[]:=by simpa using uc
      simp only[xh,uc,if_true]at m1;simp[-J,-y4,-y3,y0,e1,m1,e2,m2,fin,pe,gg,nd]
     |false =>
      have az:=mk uc;have ue:=JY v.keys v.keys.length;rw[KY]at az ue;have nd:¬v.keys=[]:=by simpa using uc
      simp only[xh,uc]at m1;simp at m1;generalize(v.keys.map Vl.cl).map TC=KC at *
      simp[-J,-y4,-y3,y0,-kD,-MC,zD,xD,wD,eD,e1,m1,e2,m2,fin,pe,gg,nd,uc,az,ue]
   |false =>
    have gg:¬v.items=[]:=by simpa using xh
    simp only[xh]at m1;simp at m1;simp[-J,-y4,-y3,y0,e1,m1];refine Hd v h2 gj v.keys.length _ ⟨by simp[e1],⟨_,by simp[m1];rfl,a,b,c,by simp[gg]⟩,fun h=>by simp[mk h],fun h=>by simp[mx h],by simp[e2],by simp[m2]⟩ ?_ ?_ _ (fun s2 g2=>?_)
    ·simp
    ·simp
    ·obtain ⟨e1,⟨r,m1,a,b,c,rfl⟩,mk,mx,e2,m2⟩:=g2;rw [Ey,h3];have mx':=mx xh;have nq:=JY v.items v.items.length;rw [KY] at mx' nq;cases uc:v.keys.isEmpty with
     |true =>
      have nd:v.keys=[]:=by simpa using uc
      simp only[xh,uc,if_true]at m1;simp at m1;generalize(v.items.map Vl.cl).map TC=XC at *
      simp[-J,-y4,-y3,y0,-kD,-MC,zD,xD,wD,eD,e1,m1,e2,m2,fin,pe,gg,xh,nd,mx',nq]
     |false =>
      have az:=mk uc;have ue:=JY v.keys v.keys.length;rw[KY]at az ue;have nd:¬v.keys=[]:=by simpa using uc
      simp only[xh,uc]at m1;simp at m1;generalize(v.keys.map Vl.cl).map TC=KC at *
      generalize(v.items.map Vl.cl).map TC=XC at *
      simp[-J,-y4,-y3,y0,-kD,-MC,zD,xD,wD,eD,e1,m1,e2,m2,fin,pe,gg,xh,nd,uc,az,ue,mx',nq]
  refine mC (c:=sF) rfl rfl ?_;rw[nC,h3];have r0:aE 24 0=true:=by decide
  have hrk:aE 120 v.keys.length=true:=by rw[UD];omega
  have hrx:aE 120 v.items.length=true:=by rw[UD];omega
  have qk:=NO v.keys;have qx:=NO v.items;have r1:aE 120 0=true:=by decide
  cases uc:v.keys.isEmpty with
  |true =>
   have nd:v.keys=[]:=by simpa using uc
   cases xh:v.items.isEmpty with
   |true =>
    have gg:v.items=[]:=by simpa using xh
    simp[sF,-J,-y4,-y3,y0,nd,gg,r0,r1,hrk,hrx,qk,qx];refine d5 v h1 kt _ ⟨?_,?_,fun h=>?_,fun h=>?_,?_,?_⟩ ?_ ?_ _ (fun s1 g1=>rest s1 g1)
    ·simp
    ·refine⟨_,(by simp[nd,gg];rfl),?_⟩;exact⟨_,_,_,by simp[nd,gg];exact⟨rfl,rfl,rfl⟩⟩
    ·rw[uc]at h;cases h
    ·rw[xh]at h;cases h
    ·simp
    ·simp[lD]
    ·simp[nd]
    ·simp
   |false =>
    have gg:¬v.items=[]:=by simpa using xh
    simp[sF,-J,-y4,-y3,y0,nd,gg,r0,r1,hrk,hrx,qk,qx];refine d5 v h1 kt _ ⟨?_,?_,fun h=>?_,fun h=>?_,?_,?_⟩ ?_ ?_ _ (fun s1 g1=>rest s1 g1)
    ·simp
    ·refine⟨_,(by simp[nd,gg];rfl),?_⟩;exact⟨_,_,_,by simp[nd,gg];exact⟨rfl,rfl,rfl⟩⟩
    ·rw[uc]at h;cases h
    ·rw[E5];simp[fV]
    ·simp
    ·simp[lD]
    ·simp[nd]
    ·simp
  |false =>
   have nd:¬v.keys=[]:=by simpa using uc
   cases xh:v.items.isEmpty with
   |true =>
    have gg:v.items=[]:=by simpa using xh
    simp[sF,-J,-y4,-y3,y0,nd,gg,r0,r1,hrk,hrx,qk,qx];refine d5 v h1 kt _ ⟨?_,?_,fun h=>?_,fun h=>?_,?_,?_⟩ ?_ ?_ _ (fun s1 g1=>rest s1 g1)
    ·simp
    ·refine⟨_,(by simp[nd,gg];rfl),?_⟩;exact⟨_,_,_,by simp[nd,gg];exact⟨rfl,rfl,rfl⟩⟩
    ·rw[E5];simp[fV]
    ·rw[xh]at h;cases h
    ·simp
    ·simp[lD]
    ·simp[nd]
    ·simp
   |false =>
    have gg:¬v.items=[]:=by simpa using xh
    simp[sF,-J,-y4,-y3,y0,nd,gg,r0,r1,hrk,hrx,qk,qx];refine d5 v h1 kt _ ⟨?_,?_,fun h=>?_,fun h=>?_,?_,?_⟩ ?_ ?_ _ (fun s1 g1=>rest s1 g1)
    ·simp
    ·refine⟨_,(by simp[nd,gg];rfl),?_⟩;exact⟨_,_,_,by simp[nd,gg];exact⟨rfl,rfl,rfl⟩⟩
    ·rw[E5];simp[fV]
    ·rw[E5];simp[fV]
    ·simp
    ·simp[lD]
    ·simp[nd]
    ·simp
noncomputable def xY (S:List BC)(t:Int):Int:=if aF S≠0 then aF S else if t<0\/(S.length:Int)<=t then 4 else 0
theorem Fi (s:dR)(hs:s.fine)(ub:s.JB)(t:Int):IC 99 [.agg (pD s),.int .i64 t] (.int .i64 (xY s.types t)):=by
 have hr:=F8 s hs ub;simp only[IC,pD]at hr;refine mC (c:=iH) rfl rfl ?_;unfold xY;by_cases h0:aF s.types=0
 ·rw [h0] at hr ⊢;by_cases c1:t<0
  ·simp[iH,-J,-y4,-y3,y0,pD,hr,c1]
  ·by_cases c2:(s.types.length:Int)<=t<;>simp[iH,-J,-y4,-y3,y0,pD,hr,c1,c2]
 ·simp[iH,-J,-y4,-y3,y0,pD,hr,h0]
def zVal:AV:=.agg [.int .i64 0,.bool false,.int .i64 0,.str ⟨#[]⟩,.int .i64 0,.sl true [],.sl true [],.sl true []]
end Go.Proofs.YthnefkpplcmjdaaGreat
