/- A part of the proof. -/
import Derived.Test.YtbnlmgncbgaepaaGreatWm
import Derived.Test.YtbnlmgncbgaepaaGreatWs
set_option linter.all false
set_option maxRecDepth 100000
set_option maxHeartbeats 8000000
open Option renaming bind_some → V
open List renaming range_succ → J, map_map → y0, all_eq_true → y4, getElem?_eq_getElem → y5, getElem_mem → y6, drop_eq_getElem_cons → y9, getElem?_eq_some_iff → yb, getElem?_map → yc, mem_cons → yf, mem_of_getElem? → yj, mem_cons_self → yk, map_congr_left → yl, length_map → yo, length_append → yp, mem_cons_of_mem → yq, map_nil → yr, mem_append → yu, getElem_of_mem → yx, replicate → yA, getElem?_eq_none → yL, append_nil → yO, mem_singleton → yU
open Int renaming toNat_lt → y3, tmod_eq_emod_of_nonneg → yy, emod_nonneg → yJ, emod_lt_of_pos → yM
open Bool renaming and_eq_true → y7, false_eq_true → yn
open Nat renaming le_refl → ym, succ_mul → yt
namespace Go.Proofs.YtbnlmgncbgaepaaGreat
open Go

section
open Go Go.RowKit Go.ChangeShapes Go.WideShapes
theorem mixed:Tryz.prog.follows .mixedOrders=true:=by kernel_rfl
theorem u8_of {n:Int} (h:(Lit.int .u8 n).wf=true):u8 n:=by
 simp only [Lit.wf,y7,decide_eq_true_eq] at h;have h1:IntKind.u8.min=0:=rfl;have h2:IntKind.u8.max=255:=rfl;exact ⟨by omega,by omega⟩
theorem q8F {H:Type} {P:Program} {m:Nat}:∀ {ts us:List TypeId} {ds gs:List (DataW H)},m∈DataW.weightsEach P ts ds->ts.length=ds.length->m∈DataW.weightsEach P (ts++us) (ds++gs)
 | [],_,[],_,h,_=>by simp [DataW.weightsEach] at h
 | [],_,_ :: _,_,_,h=>by simp at h
 | _ :: _,_,[],_,_,h=>by simp at h
 | t :: ts,us,d :: ds,gs,h,hl=>by
  simp only [DataW.weightsEach,yu,List.cons_append] at h ⊢;rcases h with h | h
  ·exact .inl h
  ·exact .inr (q8F h (by simpa using hl))
theorem list_T {α:Type} {P:List AV->Prop} {f:α->List AV} {p:α->Prop} (h:∀ x,P x->∃ o,x=f o/\p o):∀ els:List (List AV),(∀ x∈els,P x)->∃ L:List α,els=L.map f/\∀ o∈L,p o
 | [],_=>⟨[],rfl,fun _ h=>by cases h⟩
 | x :: r,hx=>by
  obtain ⟨L,h1,h2⟩:=list_T h r fun y hy=>hx y (yq _ hy)
  obtain ⟨o,h3,h4⟩:=h x (hx x yk);refine ⟨o :: L,by rw [h1,h3]; rfl,fun y hy=>?_⟩;rcases yf.1 hy with rfl | hy
  ·exact h4
  ·exact h2 y hy
theorem bytesNode:Tryz.prog.bytesOf 127=32:=by kernel_rfl
theorem bytesPart:Tryz.prog.bytesOf 165=3:=by kernel_rfl
theorem reachB:reachBytes=140737488351232:=rfl
section
variable {n:Nat} {a:List AV}
include n a
theorem tyU (h:TyT Tryz.prog n 5 a):∃ x,a=[.int .u8 x]/\u8 x:=by
 cases n with
 | zero=>exact h.elim
 | succ n =>
  simp only [TyT,Tryz.underlying5] at h;obtain ⟨x,rfl,hx⟩:=h;exact ⟨x,rfl,u8_of hx⟩
theorem tyPart (h:TyT Tryz.prog n 165 a):∃ p:Prt,a=prtC p/\p.ok:=by
 cases n with
 | zero=>exact h.elim
 | succ n =>
  simp only [TyT,Tryz.underlying165,qaS] at h;obtain ⟨_,_,rfl,_,h1,_,_,rfl,_,h2,_,_,rfl,_,h3,rfl⟩:=h;obtain ⟨x1,rfl,u1⟩:=tyU h1;obtain ⟨x2,rfl,u2⟩:=tyU h2;obtain ⟨x3,rfl,u3⟩:=tyU h3;exact ⟨⟨x1,x2,x3⟩,rfl,u1,u2,u3⟩
theorem tyChg (h:TyT Tryz.prog n 162 a):∃ c:Chg,a=chgC c/\c.ok:=by
 cases n with
 | zero=>exact h.elim
 | succ n =>
  simp only [TyT,Tryz.underlying162,qaS] at h;obtain ⟨_,_,rfl,_,h1,_,_,rfl,_,h2,_,_,rfl,_,h3,_,_,rfl,_,h4,rfl⟩:=h;obtain ⟨x1,rfl,u1⟩:=tyU h1;obtain ⟨x2,rfl,u2⟩:=tyU h2;obtain ⟨x3,rfl,u3⟩:=tyU h3;obtain ⟨x4,rfl,u4⟩:=tyU h4;exact ⟨⟨x1,x2,x3,x4⟩,rfl,u1,u2,u3,u4⟩
theorem tyParts (h:TyT Tryz.prog n 125 a):∃ nl,∃ ps:List Prt,a=[.sl nl (ps.map prtC)]/\(∀ p∈ps,p.ok)/\ps.length * 3<=140737488351232:=by
 cases n with
 | zero=>exact h.elim
 | succ n =>
  simp only [TyT,Tryz.underlying125,bytesPart,reachB] at h;obtain ⟨nl,els,rfl,_,h2,_,h4⟩:=h;obtain ⟨L,rfl,hL⟩:=list_T (P:=fun x=>TyT Tryz.prog n 165 x) (fun x hx=>tyPart hx) els (fun x hx=>(h4 x hx).2);exact ⟨nl,L,rfl,hL,by simpa using h2⟩
theorem tyChgs (h:TyT Tryz.prog n 25 a):∃ nl,∃ ps:List Chg,a=[.sl nl (ps.map chgC)]/\(∀ p∈ps,p.ok)/\ps.length<=9223372036854775807:=by
 cases n with
 | zero=>exact h.elim
 | succ n =>
  simp only [TyT,Tryz.underlying25] at h;obtain ⟨nl,els,rfl,h1,_,_,h4⟩:=h;obtain ⟨L,rfl,hL⟩:=list_T (P:=fun x=>TyT Tryz.prog n 162 x) (fun x hx=>tyChg hx) els (fun x hx=>(h4 x hx).2);exact ⟨nl,L,rfl,hL,by simpa [maxLen] using h1⟩
theorem tyNode (h:TyT Tryz.prog n 127 a):∃ x:Nde,a=ndeC x/\x.ok/\x.sized:=by
 cases n with
 | zero=>exact h.elim
 | succ n =>
  simp only [TyT,Tryz.underlying127,qaS] at h;obtain ⟨_,_,rfl,_,h1,_,_,rfl,_,h2,_,_,rfl,_,h3,_,_,rfl,_,h4,_,_,rfl,_,h5,rfl⟩:=h;obtain ⟨x1,rfl,u1⟩:=tyU h1;obtain ⟨x2,rfl,u2⟩:=tyU h2;obtain ⟨x3,rfl,u3⟩:=tyU h3;obtain ⟨x4,rfl,u4⟩:=tyU h4;obtain ⟨nl,ps,rfl,p1,p2⟩:=tyParts h5;exact ⟨⟨x1,x2,x3,x4,nl,ps⟩,rfl,⟨u1,u2,u3,u4,by dsimp only; omega,p1⟩,by unfold Nde.sized; dsimp only; omega⟩
theorem tyDraft (h:TyT Tryz.prog n 24 a):∃ nl,∃ l:List Nde,a=[.sl nl (l.map ndeC)]/\(∀ x∈l,x.ok/\x.sized)/\l.length * 32<=140737488351232:=by
 cases n with
 | zero=>exact h.elim
 | succ n =>
  simp only [TyT,Tryz.underlying24,qaS] at h;obtain ⟨_,_,rfl,_,h1,rfl⟩:=h;cases n with
  | zero=>exact h1.elim
  | succ n =>
   simp only [TyT,Tryz.underlying22,bytesNode,reachB] at h1;obtain ⟨nl,els,rfl,_,h2,_,h4⟩:=h1;obtain ⟨L,rfl,hL⟩:=list_T (P:=fun x=>TyT Tryz.prog n 127 x) (fun x hx=>tyNode hx) els (fun x hx=>(h4 x hx).2);exact ⟨nl,L,rfl,hL,by simpa using h2⟩
end
end
abbrev Rt:=Sch × Int
def rtC (x:Rt):List AV:=q3d x.1 x.2
def Rt.ok (x:Rt):Prop:=SndE x.1 0/\0<=x.2/\x.2<x.1.types.length
theorem hvalid_ev (b:Bool) (L:List Rt) (hl:L.length<=8) (hL:∀ x∈L,x.ok):evA 103 [.sl b (L.map rtC)] (.int .i64 0):=by
 refine q00 (c:=q4t) rfl rfl ?_;have h8:¬ (8:Int)<L.length:=by omega
 simp [q4t,-V,-y3,-y0,J,h8];refine q06 L.length (fun i s=>(s.env 9).v=.sl b (L.map rtC)/\(s.env 10).v=.int .i64 L.length/\(s.env 11).v=.int .i64 i)
  (fun e s=>e=.exit 0) (fun i hi s k h ih hk=>?_) _ _ ?_ (fun e s h=>?_)
 ·obtain ⟨e9,e10,e11⟩:=h;refine q02 ?_;by_cases fa:i<L.length
  ·have ga:(i:Int)<L.length:=by omega
   have g1:(L.map rtC)[i]?=some (rtC L[i]):=by simp [fa]
   have hw:=q0s (i:=i);obtain ⟨⟨hx,_⟩,h0,h1⟩:=hL L[i] (y6 _);generalize L[i]=x at *
   obtain ⟨S,t⟩:=x;have af:¬ t<0:=by dsimp only at h0; omega
   have xj:¬ (S.types.length:Int)<=t:=by dsimp only at h1; omega
   simp only [evA,rtC,q3d,schC] at g1 hx;simp [q4u,-V,-y3,-y0,J,e9,e10,e11,ga,g1,hx,hw,af,xj];refine ih fa _ ⟨?_,?_,?_⟩
   all_goals simp [e9,e10]
  ·have ga:¬ (i:Int)<L.length:=by omega
   simp [q4u,-V,-y3,-y0,J,e10,e11,ga];exact hk _ _ rfl
 ·simp
 ·subst h;simp [-V,-y3,-y0,J]
theorem q9S (b:Bool) (L:List Rt) (hl:L.length<=8) (hL:∀ x∈L,x.ok):evA 58 [.sl b (L.map rtC)] (.int .i64 0):=by
 refine q00 (c:=q6e) rfl rfl ?_;have h8:¬ (8:Int)<L.length:=by omega
 simp [q6e,-V,-y3,-y0,J,h8];refine q06 L.length (fun i s=>(s.env 0).v=.sl b (L.map rtC)/\(s.env 3).v=.int .i64 i)
  (fun e s=>e=.exit 0) (fun i hi s k h ih hk=>?_) _ _ ?_ (fun e s h=>?_)
 ·obtain ⟨e0,e3⟩:=h;refine q02 ?_;by_cases fa:i<L.length
  ·have ga:(i:Int)<L.length:=by omega
   have g1:(L.map rtC)[i]?=some (rtC L[i]):=by simp [fa]
   have hw:=q0s (i:=i);obtain ⟨⟨_,hx⟩,h0,h1⟩:=hL L[i] (y6 _);generalize L[i]=x at *
   obtain ⟨S,t⟩:=x;have af:¬ t<0:=by dsimp only at h0; omega
   have xj:¬ (S.types.length:Int)<=t:=by dsimp only at h1; omega
   simp only [evA,rtC,q3d,schC] at g1 hx;simp [q5Q,-V,-y3,-y0,J,e0,e3,ga,g1,hx,hw,af,xj];refine ih fa _ ⟨?_,?_⟩
   all_goals simp [e0]
  ·have ga:¬ (i:Int)<L.length:=by omega
   simp [q5Q,-V,-y3,-y0,J,e0,e3,ga];exact hk _ _ rfl
 ·simp
 ·subst h;simp [-V,-y3,-y0,J]
abbrev Chs:=Bool × List Chg
def chsC (c:Chs):List AV:=[.sl c.1 (c.2.map chgC)]
def histC (dn:Bool) (l:List Nde) (cn:Bool) (css:List Chs) (T:Int):List AV:=[.sl dn (l.map ndeC),.sl cn (css.map chsC),.int .u8 T]
def RtD (x:Rt):Prop:=∃ l,oks l/\x.1=⟨false,q0k l⟩/\0<=x.2/\x.2<(q0k l).length
structure OhI (dn:Bool) (l:List Nde) (cn:Bool) (css:List Chs) (T t:Int) (n4 n8 i:Nat) (L:List Rt) (s:MSt):Prop where
 e1:(s.env 1).v=.ptr 1 1 0
 m1:s.mem 1 1=some [⟨.sl dn (l.map ndeC),.no⟩,⟨.sl cn (css.map chsC),.no⟩,⟨.int .u8 T,.no⟩]
 e4:(s.env 4).v=.ptr 4 n4 0
 m4:∃ c,s.mem 4 n4=some [c]
 e8:(s.env 8).v=.ptr 8 n8 0
 m8:∃ (d2:Bool) (l2:List Nde),s.mem 8 n8=some [⟨.sl d2 (l2.map ndeC),.no⟩]/\(∀ x∈l2,x.ok/\x.sized)/\l2.length=l.length
 e6:(s.env 6).v=.int .i64 t
 e7:(s.env 7).v=.sl false (L.map rtC)
 a7:(s.env 7).a=.ex\/(s.env 7).a=.own 70 33
 e9:(s.env 9).v=.int .i64 i
theorem els_rt (L:List Rt):q13 2 (L.map rtC)=true:=q1a _ _ _ fun _=>rfl
def Gives (P:RV->Prop) (o:Option RV):Prop:=∃ r,P r/\o=some r
theorem q8P {P:RV->Prop} {b:C} {s:MSt} {k:Ex->MSt->Option RV} (h:Gives P (b.run (evC allT q01) (evK allT q01) s (q83 (evL allT q01) b k))):Gives P (evL allT q01 b s k):=by
 obtain ⟨r,h1,h2⟩:=h;exact ⟨r,h1,q02 h2⟩
def badR:AV:=.tup [.sl true [],.bool false]
theorem of24_in {dn cn:Bool} {l:List Nde} {css:List Chs} {T t:Int} {n4 n8:Nat} (hl:1<=l.length/\l.length<=5) (h0:0<=t) (h1:t<l.length) (kj:css.length<=4) (bH:∀ c∈css,(∀ x∈c.2,x.ok)/\c.2.length<=9223372036854775807) (s:MSt) (L:List Rt) (hI:OhI dn l cn css T t n4 n8 0 L s) (hL:L.length=1) (hR:∀ x∈L,RtD x) (k:Ex->MSt->Option RV) (P:RV->Prop)
  (hk:∀ (L':List Rt) (s':MSt),L'.length=css.length + 1->(∀ x∈L',RtD x)->(s'.env 7).v=.sl false (L'.map rtC)->Gives P (k (.exit 0) s'))
  (hr:∀ s':MSt,(s'.env 2).v=.sl true []->(s'.env 3).v=.bool false->Gives P (k .ret s')):Gives P (evL allT q01 q2W s k):=by
 have main:∀ m i,i + m=css.length->∀ s L,OhI dn l cn css T t n4 n8 i L s->L.length=i + 1->(∀ x∈L,RtD x)->Gives P (evL allT q01 q2W s k):=by
  intro m
  induction m with
  | zero =>
   intro i hi s L hI hL hR;obtain ⟨e1,m1,e4,m4,e8,m8,e6,e7,a7,e9⟩:=hI;have sO:i=css.length:=by omega
   subst sO;refine q8P ?_;simp [q2W,-V,-y3,-y0,J,e1,m1,e9];exact hk L _ hL hR (by simp [e7])
  | succ m ih =>
   intro i hi s L hI hL hR;obtain ⟨e1,m1,e4,⟨c4,m4⟩,e8,⟨d2,l2,m8,nn,rf⟩,e6,e7,a7,e9⟩:=hI;have fa:i<css.length:=by omega
   have ga:(i:Int)<css.length:=by omega
   have g1:(css.map chsC)[i]?=some (chsC css[i]):=by simp [fa]
   have xf:=bH css[i] (y6 _);have hw:=q0s (i:=i);generalize css[i]=c at *
   simp only [chsC] at g1;by_cases h3:3<c.2.length
   ·have zB:(3:Int)<c.2.length:=by omega
    refine q8P ?_;simp [q2W,-V,-y3,-y0,J,e1,m1,e9,ga,g1,zB,h3];exact hr _ (by simp) (by simp)
   ·obtain ⟨r1,⟨l3,uK,hl3l,rfl⟩,sv⟩:=changed_ev2 (dn:=d2) (cn:=c.1) nn (by omega) xf.1 xf.2;rcases of07_ev (dn:=false) (l:=l3) (fun x hx=>(uK x hx).1) with ⟨la,ho⟩ | ⟨_,ho⟩
    ·have zB:¬ (3:Int)<c.2.length:=by omega
     have ba:q0G 32 (i + 1 + 1)=true:=by rw [q0d]; omega
     have q1:=els_rt L;simp only [evA,dftC] at ho sv;have tb:∀ x∈L++[((⟨false,q0k l3⟩,t):Rt)],RtD x:=fun x hx=>by
      rcases yu.1 hx with hx | hx
      ·exact hR x hx
      ·rw [yU.1 hx];exact ⟨l3,la,rfl,h0,by simp [q0k]; omega⟩
     have hmap:(L++[((⟨false,q0k l3⟩,t):Rt)]).map rtC=L.map rtC++[[.sl false ((q0k l3).map typC),.int .i64 t]]:=by simp [rtC,q3d]
     have dq:=fun s' h=>ih (i + 1) (by omega) s' (L++[((⟨false,q0k l3⟩,t):Rt)]) h (by simp [hL]) tb
     generalize q0k l3=S3 at *
     refine q8P ?_;rcases a7 with a7 | a7
     all_goals
      simp [q2W,-V,-y3,-y0,J,e1,m1,e4,m4,e6,e7,a7,e8,m8,e9,ga,g1,zB,sv,ho,hL,ba,q1,anN,hw];refine dq _ ⟨?_,?_,?_,⟨⟨.sl false (S3.map typC),.no⟩,?_⟩,?_,⟨false,l3,?_,uK,by omega⟩,?_,?_,.inr ?_,?_⟩
      all_goals first | (simp [e1,m1,e4,m4,e6,e8,m8,rtC,q3d]; done) | (simp; rfl)
    ·have zB:¬ (3:Int)<c.2.length:=by omega
     simp only [evA,dftC] at ho sv;refine q8P ?_;simp [q2W,-V,-y3,-y0,J,e1,m1,e4,m4,e8,m8,e9,ga,g1,zB,sv,ho];exact hr _ (by simp) (by simp)
 exact main css.length 0 (by omega) s L hI hL hR
theorem gives_call {P:RV->Prop} {f:Nat} {c:FnC} {args:List AV} (hT:allT f=some c) (hl:args.length=c.np) (hm:q6K args=false) (h:Gives P (c.code.run (evC allT q01) (evK allT q01) (MSt.init args none) (fin c none))):Gives P (evC allT q01 f args none):=by
 obtain ⟨r,h1,h2⟩:=h;exact ⟨r,h1,q00 hT hl h2 hm⟩
structure HistOk (l:List Nde) (css:List Chs) (T:Int):Prop where
 nds:∀ x∈l,x.ok/\x.sized
 chs:∀ c∈css,(∀ x∈c.2,x.ok)/\c.2.length<=9223372036854775807
 t:u8 T
def HistR (r:RV):Prop:=r=(badR,none)\/∃ L:List Rt,1<=L.length/\L.length<=5/\(∀ x∈L,RtD x)/\r=(.tup [.sl false (L.map rtC),.bool true],none)
theorem of24_ev {dn cn:Bool} {l:List Nde} {css:List Chs} {T:Int} (h:HistOk l css T):Gives HistR (evC allT q01 44 [.agg (histC dn l cn css T)] none):=by
 refine gives_call (c:=q6r) rfl rfl rfl ?_;obtain ⟨t0,t1⟩:=h.t;have xP:IntKind.i64.wrap T=T:=IntWalk.i64_in _ (by omega);rcases of07_ev (dn:=dn) (l:=l) (fun x hx=>(h.nds x hx).1) with ⟨la,ho⟩ | ⟨_,ho⟩
 ·simp only [evA,dftC] at ho;by_cases h4:4<css.length
  ·have uA:(4:Int)<css.length:=by omega
   simp [q6r,histC,-V,-y3,-y0,J,ho,h4,uA];exact ⟨_,.inl rfl,rfl⟩
  ·have uA:¬ (4:Int)<css.length:=by omega
   have hS:(q0k l).length=l.length:=by simp [q0k]
   have p1:=la.1;have p2:=la.2.1;have a0:=yJ T (b:=((q0k l).length:Int)) (by omega);have a1:=yM T (b:=((q0k l).length:Int)) (by omega);have am:T.tmod (q0k l).length=T % (q0k l).length:=yy t0;have n1:¬ (q0k l)=[]:=fun e=>by rw [e] at hS; simp at hS; omega
   have n2:¬ (q0k l).length=0:=by omega
   generalize ht:T % ((q0k l).length:Int)=t at *
   have hR:∀ x∈[((⟨false,q0k l⟩,t):Rt)],RtD x:=fun x hx=>by
    rw [yU.1 hx];exact ⟨l,la,rfl,a0,by simpa using a1⟩
   simp [q6r,histC,-V,-y3,-y0,J,ho,uA,xP,am,n1,n2];refine of24_in (dn:=dn) (l:=l) (cn:=cn) (css:=css) (T:=T) (t:=t) (n4:=2) (n8:=6) ⟨p1,p2⟩ a0 (by omega) (by omega) h.chs _ [((⟨false,q0k l⟩,t):Rt)] ⟨?_,?_,?_,⟨⟨.sl false ((q0k l).map typC),.no⟩,?_⟩,?_,⟨dn,l,?_,h.nds,rfl⟩,?_,?_,.inl ?_,?_⟩ rfl hR _ HistR (fun L' s' rq pN h7=>?_) (fun s' h2 h3=>?_)
   all_goals try (simp [rtC,q3d]; done)
   ·simp [-V,-y3,-y0,J,h7];exact ⟨_,.inr ⟨L',by omega,by omega,pN,rfl⟩,rfl⟩
   ·simp [-V,-y3,-y0,J,h2,h3];exact ⟨_,.inl rfl,rfl⟩
 ·simp only [evA,dftC] at ho;simp [q6r,histC,-V,-y3,-y0,J,ho];exact ⟨_,.inl rfl,rfl⟩
section
open Go Go.RowKit Go.ChangeShapes Go.WideShapes
def histTs:List TypeId:=[78,76,24,22,127,125,165,25,162,5]
theorem histTs_good:histTs.all (qaX Tryz.prog histTs)=true:=by kernel_rfl
theorem tyChss {n:Nat} {a:List AV} (h:TyT Tryz.prog n 76 a):∃ nl,∃ ps:List Chs,a=[.sl nl (ps.map chsC)]/\∀ c∈ps,(∀ x∈c.2,x.ok)/\c.2.length<=9223372036854775807:=by
 cases n with
 | zero=>exact h.elim
 | succ n =>
  simp only [TyT,Tryz.underlying76] at h;obtain ⟨nl,els,rfl,_,_,_,h4⟩:=h;obtain ⟨L,rfl,hL⟩:=list_T (P:=fun x=>TyT Tryz.prog n 25 x) (f:=chsC) (p:=fun c=>(∀ x∈c.2,x.ok)/\c.2.length<=9223372036854775807) (fun x hx=>by
   obtain ⟨b,ps,e,h1,h2⟩:=tyChgs hx;exact ⟨(b,ps),e,h1,h2⟩) els (fun x hx=>(h4 x hx).2)
  exact ⟨nl,L,rfl,hL⟩
theorem histTy {a:AV} (h:ParT Tryz.prog 78 a):∃ dn,∃ l:List Nde,∃ cn,∃ css:List Chs,∃ T:Int,a=.agg (histC dn l cn css T)/\HistOk l css T:=by
 obtain ⟨n,⟨_,c,rfl,h⟩ | ⟨hw,_⟩⟩:=h
 ·cases n with
  | zero=>exact h.elim
  | succ n =>
   simp only [TyT,Tryz.underlying78,qaS] at h;obtain ⟨_,_,rfl,_,h1,_,_,rfl,_,h2,_,_,rfl,_,h3,rfl⟩:=h;obtain ⟨dn,l,rfl,l1,l2⟩:=tyDraft h1;obtain ⟨cn,css,rfl,c1⟩:=tyChss h2;obtain ⟨T,rfl,u3⟩:=tyU h3;exact ⟨dn,l,cn,css,T,rfl,l1,c1,u3⟩
 ·have uc:q92 Tryz.prog 78=true:=by kernel_rfl
  rw [uc] at hw;cases hw
end
def CmpE (L:List Rt) (cp:Nat->Nat->Bool):Prop:=∀ i j x y,L[i]?=some x->L[j]?=some y->evA 21 [.agg (rtC x),.agg (rtC y)] (.tup [.bool (cp i j),.int .i64 0])/\evA 29 [.agg (rtC x),.agg (rtC y)] (.tup [.bool (cp i j),.int .i64 0])
theorem q9R (b:Bool) {L:List Rt} {cp:Nat->Nat->Bool} (hc:CmpE L cp) {i j:Nat} (hi:i<L.length) (hj:j<L.length):evA 104 [.sl b (L.map rtC),.int .i64 i,.int .i64 j] (.bool (cp i j)):=by
 refine q00 (c:=q3j) rfl rfl ?_;have g1:(L.map rtC)[i]?=some (rtC L[i]):=by simp [hi]
 have g2:(L.map rtC)[j]?=some (rtC L[j]):=by simp [hj]
 have h:=(hc i j L[i] L[j] (by simp [hi]) (by simp [hj])).2;generalize L[i]=x at *
 generalize L[j]=y at *
 simp only [evA,rtC,q3d] at g1 g2 h;simp [q3j,-V,-y3,-y0,J,g1,g2,h]
def rowM (cp:Nat->Nat->Bool) (i j:Nat):AV:=.sl (decide (j=0)) ((List.range j).map fun m=>[.bool (cp i m)])
def q9M (cp:Nat->Nat->Bool) (n i j:Nat):List AV:=(List.range n).map fun k=>if k<i then rowM cp k n else if k=i then rowM cp i j else .sl true []
structure MatI (b:Bool) (L:List Rt) (cp:Nat->Nat->Bool) (n0 i j:Nat) (s:MSt):Prop where
 e0:(s.env 0).v=.sl b (L.map rtC)
 e5:(s.env 5).v=.ref 19 n0 1 0 L.length L.length
 e20:(s.env 20).v=.sl b (L.map rtC)
 e21:(s.env 21).v=.int .i64 L.length
 e22:(s.env 22).v=.int .i64 i
 m:∃ r,s.mem 19 n0=some r/\r.map (·.v)=q9M cp L.length i j/\∀ c,r[i]?=some c->j=0\/c.a=.own 47 4
theorem els_bools (f:Nat->Bool) (n:Nat):q13 1 ((List.range n).map fun m=>[AV.bool (f m)])=true:=q1a _ _ _ fun _=>rfl
theorem rowM_succ (cp:Nat->Nat->Bool) (i j:Nat):rowM cp i (j + 1)=.sl false (((List.range j).map fun m=>[.bool (cp i m)])++[[.bool (cp i j)]]):=by
 simp [rowM,J]
theorem cols_set {cp:Nat->Nat->Bool} {n i j:Nat} {r:List Slot} (hr:r.map (·.v)=q9M cp n i j) (f:Slot->Slot) (hf:∀ c,(f c).v=c.v) (a:An) {X:AV} (hX:X=rowM cp i (j + 1)):((r.map f).set i ⟨X,a⟩).map (·.v)=q9M cp n i (j + 1):=by
 have h1:(r.map f).map (·.v)=q9M cp n i j:=by
  rw [y0,<- hr];exact yl fun c _=>hf c
 rw [List.map_set,h1,hX];unfold q9M;apply List.ext_getElem?;intro k;by_cases hk:k<n
 ·by_cases wC:i=k
  ·subst wC;simp [hk]
  ·have h2:¬ k=i:=fun e=>wC e.symm
   simp [hk,wC,h2,List.getElem?_set]
 ·have h3:n<=k:=by omega
  rw [yL (by simpa using h3),yL (by simpa using h3)]
theorem mat_in {rv:RV} {b:Bool} {L:List Rt} {cp:Nat->Nat->Bool} (hl:L.length<=8) (hc:CmpE L cp) {n0 i:Nat} {x:Rt} (hx:L[i]?=some x) {n7:Nat} (s:MSt) (h:MatI b L cp n0 i 0 s) (e6:(s.env 6).v=.int .i64 i) (e7:(s.env 7).v=.ptr 7 n7 0) (m7:s.mem 7 n7=some (q2Q x.1 x.2)) (zq:(s.env 27).v=.sl b (L.map rtC)) (gr:(s.env 28).v=.int .i64 L.length) (dy:(s.env 29).v=.int .i64 0) (kk:Ex->MSt->Option RV)
  (hk:∀ s',MatI b L cp n0 i L.length s'->kk (.exit 2) s'=some rv):evL allT q01 q29 s kk=some rv:=by
 refine q06 L.length (fun j s=>MatI b L cp n0 i j s/\(s.env 6).v=.int .i64 i/\(s.env 7).v=.ptr 7 n7 0/\s.mem 7 n7=some (q2Q x.1 x.2)/\(s.env 27).v=.sl b (L.map rtC)/\(s.env 28).v=.int .i64 L.length/\(s.env 29).v=.int .i64 j)
  (fun e s=>e=.exit 2/\MatI b L cp n0 i L.length s) (fun j hj s k' h ih hk=>?_) _ _ ⟨h,e6,e7,m7,zq,gr,dy⟩ (fun e s h=>by obtain ⟨rfl,h1⟩:=h; exact hk _ h1)
 obtain ⟨⟨e0,e5,e20,e21,e22,r,m,hr,ha⟩,e6,e7,m7,zq,gr,dy⟩:=h;refine q02 ?_;by_cases fa:j<L.length
 ·have ga:(j:Int)<L.length:=by omega
  have hw:=q0s (i:=j);have zf:i<L.length:=(yb.1 hx).1;have g1:(L.map rtC)[j]?=some (rtC L[j]):=by simp [fa]
  have zy:=(hc i j x L[j] hx (by simp [fa])).1;generalize L[j]=y at *
  generalize hn:L.length=n at *
  have rF:r.length=n:=by rw [<- yo (f:=(·.v)),hr]; simp [q9M]
  have tt:i<r.length:=by omega
  have xE:r[i].v=rowM cp i j:=by
   have h1:(r.map (·.v))[i]?=some (rowM cp i j):=by rw [hr]; simp [q9M,zf]
   rw [yc,y5 tt] at h1;simpa using h1
  have aH:=ha r[i] (by simp [tt]);simp only [rowM] at xE;simp only [evA,rtC,q3d] at g1 zy;simp only [q2Q] at m7;have q1:=els_bools (cp i) j;have ba:q0G 1 (j + 1)=true:=by rw [q0d]; omega
  by_cases bx:j=0
  ·subst bx;have iq:0<n:=fa;simp [q29,-V,-y3,-y0,J,e0,e5,e6,e7,m7,e20,e21,e22,zq,gr,dy,iq,g1,zy,hw,m,tt,zf,ba,xE,anN];refine ih fa _ ⟨⟨?_,?_,?_,?_,?_,⟨?r,?hm,?hv,?ha⟩⟩,?_,?_,?_,?_,?_,?_⟩
   case hm=>simp [m,tt]; rfl
   case hv =>
    rw [hn];exact cols_set (X:=.sl false [[.bool (cp i 0)]]) hr (Slot.strip 47) (fun c=>by cases c; rfl) _ ((rowM_succ cp i 0).symm)
   case ha =>
    intro c h;right;simp [tt] at h;rw [<- h]
   all_goals try (simp [e0,e5,e6,e7,m7,e20,e21,e22,zq,gr,dy,hn,q2Q]; done)
   all_goals (simp; rfl)
  ·have aH:=aH.resolve_left bx;have hd:decide (j=0)=false:=decide_eq_false bx;rw [hd] at xE;simp [q29,-V,-y3,-y0,J,e0,e5,e6,e7,m7,e20,e21,e22,zq,gr,dy,ga,g1,zy,hw,m,tt,zf,ba,q1,xE,aH,anN];refine ih fa _ ⟨⟨?_,?_,?_,?_,?_,⟨?r2,?nh,?mA,?kK⟩⟩,?_,?_,?_,?_,?_,?_⟩
   case nh=>simp [m,tt]; rfl
   case mA =>
    rw [hn];exact cols_set hr (Slot.strip 47 ∘ Slot.strip 47) (fun c=>by cases c; rfl) _ ((rowM_succ cp i j).symm)
   case kK =>
    intro c h;right;simp [tt] at h;rw [<- h]
   all_goals try (simp [e0,e5,e6,e7,m7,e20,e21,e22,zq,gr,dy,hn,q2Q]; done)
   all_goals (simp; rfl)
 ·have ew:j=L.length:=by omega
  subst ew;simp [q29,-V,-y3,-y0,J,gr,dy];exact hk _ _ ⟨rfl,e0,e5,e20,e21,e22,r,m,hr,ha⟩
theorem cols_next {cp:Nat->Nat->Bool} {n i:Nat}:q9M cp n i n=q9M cp n (i + 1) 0:=by
 unfold q9M;refine yl fun k _=>?_
 by_cases h1:k<i
 ·rw [if_pos h1,if_pos (by omega)]
 ·by_cases h2:k=i
  ·subst h2;rw [if_neg h1,if_pos rfl,if_pos (by omega)]
  ·rw [if_neg h1,if_neg h2,if_neg (by omega)];by_cases h3:k=i + 1
   ·rw [if_pos h3]; simp [rowM]
   ·rw [if_neg h3]
def matA (cp:Nat->Nat->Bool) (n:Nat):AV:=.sl false ((List.range n).map fun i=>[rowM cp i n])
theorem cols_all {cp:Nat->Nat->Bool} {n j:Nat}:q9M cp n n j=(List.range n).map fun i=>rowM cp i n:=by
 unfold q9M;refine yl fun k hk=>?_
 rw [if_pos (List.mem_range.1 hk)]
theorem cols_zero {cp:Nat->Nat->Bool} {n:Nat}:q9M cp n 0 0=yA n (.sl true []):=by
 unfold q9M;rw [yl (g:=fun _=>AV.sl true []) fun k _=>by
  by_cases h:k=0
  ·subst h; simp [rowM]
  ·simp [h]]
 rw [List.map_const',List.length_range]
theorem mat_els {cp:Nat->Nat->Bool} {n:Nat} {r:List Slot} (hr:r.map (·.v)=(List.range n).map fun i=>rowM cp i n):q2R r 1 0 n=some ((List.range n).map fun i=>[rowM cp i n]):=by
 have hl:r.length=n:=by rw [<- yo (f:=(·.v)),hr]; simp
 have hf:r.all (fun x=>x.v.free0)=true:=by
  have:(r.map (·.v)).all AV.free0=true:=by rw [hr]; simp [rowM,AV.free0]
  rw [List.all_map] at this;exact this
 unfold q2R;rw [if_pos ⟨by omega,hf⟩];congr 1;refine yl fun i hi=>?_
 have hi:=List.mem_range.1 hi;rw [List.map_take,List.map_drop,hr,show 0 + i * 1=i from by omega,y9 (by simpa using hi)];simp
theorem q9Z (b:Bool) {L:List Rt} (h0:0<L.length) (hl:L.length<=8) (hL:∀ x∈L,x.ok) {cp:Nat->Nat->Bool} (hc:CmpE L cp):evA 46 [.sl b (L.map rtC)] (.tup [matA cp L.length,.int .i64 0]):=by
 refine q00 (c:=q3W) rfl rfl ?_;have he:=hvalid_ev b L hl hL;simp only [evA] at he;have gH:L.length * 24<=140737488355328:=by omega
 have uy:L.length<=140737488355328:=by omega
 simp [q3W,-V,-y3,-y0,J,he,gH,uy];refine q06 L.length (fun i s=>MatI b L cp 4 i 0 s) (fun e s=>e=.exit 0/\MatI b L cp 4 L.length 0 s) (fun i hi s k h ih hk=>?_) _ _ ?_ (fun e s h=>?_)
 ·obtain ⟨e0,e5,e20,e21,e22,r,m,hr,ha⟩:=h;refine q02 ?_;by_cases fa:i<L.length
  ·have ga:(i:Int)<L.length:=by omega
   have hw:=q0s (i:=i);have g1:(L.map rtC)[i]?=some (rtC L[i]):=by simp [fa]
   have hx:L[i]?=some L[i]:=by simp [fa]
   generalize L[i]=x at *
   simp only [rtC,q3d] at g1;simp [q4a,-V,-y3,-y0,J,e0,e20,e21,e22,ga,g1];refine mat_in (b:=b) (n0:=4) (n7:=s.next + 1) hl hc hx _ ⟨?_,?_,?_,?_,?_,⟨r,?_,hr,fun c _=>.inl rfl⟩⟩ ?_ ?_ ?_ ?_ ?_ ?_ _ (fun s' h'=>?_)
   all_goals try (simp [e0,e5,e20,e21,e22,m,q2Q]; done)
   ·obtain ⟨e0,e5,e20,e21,e22,r,m,hr,ha⟩:=h';rw [cols_next] at hr;simp [-V,-y3,-y0,J,e22,hw];refine ih fa _ ⟨?_,?_,?_,?_,?_,⟨r,?_,hr,fun c _=>.inl rfl⟩⟩
    all_goals simp [e0,e5,e20,e21,m]
  ·have wd:i=L.length:=by omega
   subst wd;simp [q4a,-V,-y3,-y0,J,e21,e22];exact hk _ _ ⟨rfl,e0,e5,e20,e21,e22,r,m,hr,ha⟩
 ·refine ⟨?_,?_,?_,?_,?_,⟨_,rfl,?_,fun c _=>.inl rfl⟩⟩
  all_goals try (simp; done)
  simp [cols_zero]
 ·obtain ⟨rfl,e0,e5,e20,e21,e22,r,m,hr,ha⟩:=h;rw [cols_all] at hr;have sc:=mat_els hr;simp [-V,-y3,-y0,J,e5,m,sc,matA]
def rowsM (cp:Nat->Nat->Bool) (n i:Nat):AV:=.sl (decide (i=0)) ((List.range i).map fun k=>[rowM cp k n])
theorem els_rows (cp:Nat->Nat->Bool) (n i:Nat):q13 1 ((List.range i).map fun k=>[rowM cp k n])=true:=q1a _ _ _ fun _=>rfl
theorem rmat_in {rv:RV} {b:Bool} {L:List Rt} {cp:Nat->Nat->Bool} (hl:L.length<=8) (hc:CmpE L cp) {i:Nat} (zf:i<L.length) (s:MSt) (e0:(s.env 0).v=.sl b (L.map rtC)) (e5:(s.env 5).v=rowsM cp L.length i) (a5:i=0\/(s.env 5).a=.own 36 71) (e6:(s.env 6).v=.int .i64 i) (e7:(s.env 7).v=.sl true []) (e8:(s.env 8).v=.int .i64 0) (kk:Ex->MSt->Option RV)
  (hk:∀ s',(s'.env 0).v=.sl b (L.map rtC)->(s'.env 5).v=rowsM cp L.length i->(i=0\/(s'.env 5).a=.own 36 71)->(s'.env 6).v=.int .i64 i->(s'.env 7).v=rowM cp i L.length->kk (.exit 2) s'=some rv):evL allT q01 q2O s kk=some rv:=by
 refine q06 L.length (fun j s=>(s.env 0).v=.sl b (L.map rtC)/\(s.env 5).v=rowsM cp L.length i/\(i=0\/(s.env 5).a=.own 36 71)/\(s.env 6).v=.int .i64 i/\(s.env 7).v=rowM cp i j/\(j=0\/(s.env 7).a=.own 32 4)/\(s.env 8).v=.int .i64 j)
  (fun e s=>e=.exit 2/\(s.env 0).v=.sl b (L.map rtC)/\(s.env 5).v=rowsM cp L.length i/\(i=0\/(s.env 5).a=.own 36 71)/\(s.env 6).v=.int .i64 i/\(s.env 7).v=rowM cp i L.length) (fun j hj s k' h ih hk=>?_) _ _ ⟨e0,e5,a5,e6,by simp [e7,rowM],.inl rfl,e8⟩ (fun e s h=>by obtain ⟨rfl,h1,h2,h3,h4,h5⟩:=h; exact hk _ h1 h2 h3 h4 h5)
 obtain ⟨e0,e5,a5,e6,e7,a7,e8⟩:=h;refine q02 ?_;by_cases fa:j<L.length
 ·have ga:(j:Int)<L.length:=by omega
  have hw:=q0s (i:=j);have q:=q9R b hc zf fa;have q1:=els_bools (cp i) j;have ba:q0G 1 (j + 1)=true:=by rw [q0d]; omega
  have hs:=rowM_succ cp i j;simp only [evA] at q;rw [hs] at ih;simp only [rowM] at e7;generalize cp i j=z at *
  by_cases bx:j=0
  ·subst bx;rw [show ((0:Nat):Int)=0 from rfl] at q;simp [q2O,-V,-y3,-y0,J,e0,e6,e7,e8,fa,q,ba,anN];refine ih fa _ ⟨?_,?_,?_,?_,?_,.inr ?_,?_⟩
   all_goals first | (simp [e0,e5,e6]; done) | (rcases a5 with h | h <;> simp [h]; done) | (simp; rfl)
  ·have a7:=a7.resolve_left bx;have hd:decide (j=0)=false:=decide_eq_false bx;rw [hd] at e7;simp [q2O,-V,-y3,-y0,J,e0,e6,e7,a7,e8,ga,q,ba,anN,q1,hw];refine ih fa _ ⟨?_,?_,?_,?_,?_,.inr ?_,?_⟩
   all_goals first | (simp [e0,e5,e6]; done) | (rcases a5 with h | h <;> simp [h]; done)
 ·have ew:j=L.length:=by omega
  subst ew;simp [q2O,-V,-y3,-y0,J,e0,e8];exact hk _ _ ⟨rfl,e0,e5,a5,e6,e7⟩
theorem rmatrix_ev (b:Bool) {L:List Rt} (h0:0<L.length) (hl:L.length<=8) (hL:∀ x∈L,x.ok) {cp:Nat->Nat->Bool} (hc:CmpE L cp):evA 47 [.sl b (L.map rtC)] (.tup [matA cp L.length,.int .i64 0]):=by
 refine q00 (c:=q5o) rfl rfl ?_;have he:=q9S b L hl hL;simp only [evA] at he;simp [q5o,-V,-y3,-y0,J,he];refine q06 L.length (fun i s=>(s.env 0).v=.sl b (L.map rtC)/\(s.env 5).v=rowsM cp L.length i/\(i=0\/(s.env 5).a=.own 36 71)/\(s.env 6).v=.int .i64 i) (fun e s=>e=.exit 0/\(s.env 5).v=rowsM cp L.length L.length) (fun i hi s k h ih hk=>?_) _ _ ?_ (fun e s h=>?_)
 ·obtain ⟨e0,e5,a5,e6⟩:=h;refine q02 ?_;by_cases fa:i<L.length
  ·have ga:(i:Int)<L.length:=by omega
   have hw:=q0s (i:=i);simp [q59,-V,-y3,-y0,J,e0,e6,ga];refine rmat_in (b:=b) hl hc fa _ (by simp [e0]) (by simp [e5]) (by simpa using a5) (by simp [e6]) (by simp) (by simp) _ (fun s' e0 e5 a5 e6 e7=>?_);have q1:=els_rows cp L.length i;have ba:q0G 24 (i + 1)=true:=by rw [q0d]; omega
   have hs:rowsM cp L.length (i + 1)=.sl false (((List.range i).map fun k=>[rowM cp k L.length])++[[rowM cp i L.length]]):=by simp [rowsM,J]
   have su:(rowM cp i L.length).free0=true:=by simp [rowM,AV.free0]
   rw [hs] at ih;simp only [rowsM] at e5;obtain ⟨z,els,oe⟩:∃ z els,rowM cp i L.length=.sl z els:=⟨_,_,rfl⟩;rw [oe] at ih e7 su;by_cases bh:i=0
   ·subst bh;simp [-V,-y3,-y0,J,e0,e5,e6,e7,ba,anN,hw];refine ih fa _ ⟨?_,?_,.inr ?_,?_⟩
    all_goals first | (simp [e0]; done) | (simp; rfl)
   ·have a5:=a5.resolve_left bh;have hd:decide (i=0)=false:=decide_eq_false bh;rw [hd] at e5;simp [-V,-y3,-y0,J,e0,e5,a5,e6,e7,ba,anN,q1,hw];refine ih fa _ ⟨?_,?_,.inr ?_,?_⟩
    all_goals simp [e0]
  ·have wd:i=L.length:=by omega
   subst wd;simp [q59,-V,-y3,-y0,J,e0,e6];exact hk _ _ ⟨rfl,e5⟩
 ·simp [rowsM]
 ·obtain ⟨rfl,e5⟩:=h;have hd:decide (L.length=0)=false:=decide_eq_false (by omega);simp only [rowsM,hd] at e5;simp [-V,-y3,-y0,J,e5,matA,rowM]
theorem RtD.ok {x:Rt} (h:RtD x):x.ok:=by
 obtain ⟨l,hl,e,h0,h1⟩:=h;obtain ⟨S,t⟩:=x;dsimp only at e h0 h1;subst e;exact ⟨q4g hl,h0,h1⟩
theorem cmp_ex {x y:Rt} (hx:RtD x) (hy:RtD y):∃ z,evA 21 [.agg (rtC x),.agg (rtC y)] (.tup [.bool z,.int .i64 0])/\evA 29 [.agg (rtC x),.agg (rtC y)] (.tup [.bool z,.int .i64 0]):=by
 obtain ⟨l1,o1,e1,a0,a1⟩:=hx;obtain ⟨l2,o2,e2,b0,b1⟩:=hy;obtain ⟨S1,t⟩:=x;obtain ⟨S2,u⟩:=y;dsimp only at e1 e2 a0 a1 b0 b1;subst e1;subst e2;have hF:=simF (draft_F o1) (draft_F o2);have hz:=botE_zero ⟨a0,a1⟩ ⟨b0,b1⟩;have h1:=scompat_ev (q4g o1) (q4g o2) (i:=t) (k:=u) (fun _=>hF) (by dsimp only; rw [hz]; decide);have h2:=rcompat_ev (q4g o1) (q4g o2) (i:=t) (k:=u) (fun _=>hF);dsimp only at h1 h2;rw [hz] at h1 h2;exact ⟨_,h1,h2⟩
theorem cmpE_ex {L:List Rt} (hL:∀ x∈L,RtD x):∃ cp,CmpE L cp:=by
 classical
 have H:∀ i j,∃ z:Bool,∀ x y,L[i]?=some x->L[j]?=some y->evA 21 [.agg (rtC x),.agg (rtC y)] (.tup [.bool z,.int .i64 0])/\evA 29 [.agg (rtC x),.agg (rtC y)] (.tup [.bool z,.int .i64 0]):=fun i j=>by
  by_cases hi:i<L.length
  ·by_cases hj:j<L.length
   ·obtain ⟨z,h1,h2⟩:=cmp_ex (hL L[i] (y6 hi)) (hL L[j] (y6 hj));refine ⟨z,fun x y ex ey=>?_⟩;rw [y5 hi] at ex;rw [y5 hj] at ey;injection ex with ex;injection ey with ey;subst ex;subst ey;exact ⟨h1,h2⟩
   ·exact ⟨true,fun x y _ ey=>by rw [yL (by omega)] at ey; cases ey⟩
  ·exact ⟨true,fun x y ex _=>by rw [yL (by omega)] at ex; cases ex⟩
 exact ⟨fun i j=>(H i j).choose,fun i j x y ex ey=>(H i j).choose_spec x y ex ey⟩
theorem table_same (cp:Nat->Nat->Bool) {n:Nat} (hn:n<=8):evA 40 [matA cp n,matA cp n] (.bool true):=by
 refine q00 (c:=q6c) rfl rfl ?_;obtain ⟨M,hM⟩:∃ M,M=(List.range n).map fun i=>[rowM cp i n]:=⟨_,rfl⟩
 have hl:M.length=n:=by rw [hM]; simp
 simp only [matA,<- hM];simp [q6c,-V,-y3,-y0,J];refine q06 n (fun i s=>(s.env 0).v=.sl false M/\(s.env 1).v=.sl false M/\(s.env 5).v=.int .i64 i)
  (fun e s=>e=.exit 0) (fun i hi s k h ih hk=>?_) _ _ ?_ (fun e s h=>?_)
 ·obtain ⟨e0,e1,e5⟩:=h;refine q02 ?_;by_cases fa:i<n
  ·have ga:(i:Int)<n:=by omega
   have g1:M[i]?=some [rowM cp i n]:=by rw [hM]; simp [fa]
   have hw:=q0s (i:=i);have hb:=bools_same ((List.range n).map (cp i)) (by simp; omega) (decide (n=0)) (decide (n=0));rw [y0] at hb;have hr:rowM cp i n=.sl (decide (n=0)) ((List.range n).map ((fun x=>[AV.bool x]) ∘ cp i)):=rfl;rw [hr] at g1;simp only [evA] at hb;generalize ((List.range n).map ((fun x=>[AV.bool x]) ∘ cp i))=R at *
   generalize decide (n=0)=z at *
   simp [q5O,-V,-y3,-y0,J,e0,e1,e5,hl,ga,g1,hb,hw];refine ih fa _ ⟨?_,?_,?_⟩ <;> simp [e0,e1]
  ·have ga:¬ (i:Int)<n:=by omega
   simp [q5O,-V,-y3,-y0,J,e0,e5,hl,ga];exact hk _ _ rfl
 ·refine ⟨?_,?_,?_⟩ <;> simp
 ·subst h;simp [-V,-y3,-y0,J]
theorem asc_of:∀ (l:List (Int × ByteArray)) (b:Int) (seen:List ByteArray),q1P b seen l=true->(∀ x∈l,b<x.1)/\l.Pairwise fun x y=>x.1<y.1
 | [],_,_,_=>by simp
 | (n,s) :: r,b,seen,h=>by
  simp only [q1P,y7] at h;obtain ⟨⟨⟨h1,_⟩,_⟩,h2⟩:=h;have hb:b<n:=by unfold idOk at h1; simp at h1; omega
  obtain ⟨g1,g2⟩:=asc_of r n _ h2;refine ⟨fun x hx=>?_,List.pairwise_cons.2 ⟨fun y hy=>g1 y hy,g2⟩⟩;rcases yf.1 hx with rfl | hx
  ·exact hb
  ·have:=g1 x hx; omega
theorem good_asc {x:Typ} (h:q0L x=true):x.mems.Pairwise fun f g=>f.id<g.id:=by
 unfold q0L at h;rw [y7,y7] at h;obtain ⟨_,h1,h2⟩:=h;have main:∀ rc,q5B rc x.mems=true->x.mems.Pairwise fun f g=>f.id<g.id:=fun rc h=>by
  unfold q5B at h;simp only [y7] at h;have:=(asc_of _ _ _ h.2.2.1).2;rw [List.pairwise_map] at this;exact this
 by_cases k5:x.kind=5
 ·simp [q6R,k5] at h1; exact main true h1.2
 by_cases k6:x.kind=6
 ·simp [q6R,k6] at h1; exact main false h1.2
 have e:x.left.mems=x.mems:=by
  unfold Typ.left;simp only [if_neg k5,if_neg k6]
  repeat' split
  all_goals rfl
 have hm:q0A x.left.mems []=true:=by simp only [Typ.same,y7] at h2; exact h2.2
 rw [e] at hm;cases hx:x.mems with
 | nil=>exact List.Pairwise.nil
 | cons a r=>rw [hx] at hm; simp [q0A] at hm
theorem asc_uniq:∀ {l:List Mem},l.Pairwise (fun f g=>f.id<g.id)->∀ f∈l,∀ g∈l,f.id=g.id->f=g
 | [],_,f,hf,_,_,_=>by cases hf
 | a :: r,h,f,hf,g,hg,e=>by
  obtain ⟨h1,h2⟩:=List.pairwise_cons.1 h;rcases yf.1 hf with mC | mC <;> rcases yf.1 hg with sC | sC
  ·rw [mC,sC]
  ·have:=h1 g sC; rw [<- mC] at this; omega
  ·have:=h1 f mC; rw [<- sC] at this; omega
  ·exact asc_uniq h2 f mC g sC e
theorem mem_own {l:List Mem} (h:l.Pairwise fun f g=>f.id<g.id) {f:Mem} (hf:f∈l):0<=q1d l f.id/\l[(q1d l f.id).toNat]?=some f:=by
 have h0:0<=q1d l f.id:=by
  have h1:=q9U (fun x:Mem=>decide (x.id=f.id)) l;rw [List.any_eq_true.2 ⟨f,hf,by simp⟩] at h1;exact of_decide_eq_true h1
 obtain ⟨g,hg,he⟩:=q8r (fun x:Mem=>decide (x.id=f.id)) l (by unfold q1d at h0; omega);have he:g.id=f.id:=by simpa using he
 have:=asc_uniq h g (yj hg) f hf he;subst this;exact ⟨h0,hg⟩
theorem sym_own {l:List Sym} {f:Sym} (hf:f∈l):0<=q5H l f.id:=by
 have h1:=q9U (fun x:Sym=>decide (x.id=f.id)) l;rw [List.any_eq_true.2 ⟨f,hf,by simp⟩] at h1;exact of_decide_eq_true h1
theorem allP_self {x:Typ} (h:x.mems.Pairwise fun f g=>f.id<g.id):allP x x=true:=by
 unfold allP;rw [y7,y4,y4];exact ⟨fun s hs=>decide_eq_true (sym_own hs),fun m hm=>decide_eq_true (mem_own h hm).1⟩
theorem next_self {x:Typ} (h:x.mems.Pairwise fun f g=>f.id<g.id) {q:Pr} (hq:q∈q9f x x):q.1=q.2:=by
 rw [q9f,if_pos rfl,q7p] at hq;rcases hq with hq | hq
 ·cases hq
 rw [yu,yu] at hq;rcases hq with (hq | hq) | hq
 ·unfold comL at hq;rw [List.mem_flatMap] at hq;obtain ⟨f,hf,hq⟩:=hq;obtain ⟨h0,h1⟩:=mem_own h hf;rw [comM,if_pos h0,h1] at hq;simp at hq;subst hq;rfl
 ·unfold keyL at hq;split at hq
  ·simp at hq; subst hq; rfl
  ·cases hq
 ·unfold elemL at hq;split at hq
  ·simp at hq; subst hq; rfl
  ·cases hq
theorem rec_self {mns:Mem->Mem->Bool} {xs:List Mem} (h:xs.Pairwise fun f g=>f.id<g.id) (hm:∀ f∈xs,f.has=true->mns f f=true):∀ ys:List Mem,(∀ g∈ys,g∈xs)->recP mns xs ys=0
 | [],_=>rfl
 | g :: r,hs=>by
  have hg:=hs g (by simp);have ih:=rec_self h hm r fun x hx=>hs x (by simp [hx])
  obtain ⟨h0,h1⟩:=mem_own h hg;rw [recP,if_pos h0,h1];by_cases c:g.has=true
  ·simp only [if_pos c,if_pos (hm g hg c),ih]
  ·simp only [if_neg c,ih]
theorem DrF.asc {S:List Typ} (h:DrF S) {x:Typ} (hx:x∈S):x.mems.Pairwise fun f g=>f.id<g.id:=by
 obtain ⟨j,hj,rfl⟩:=yx hx;exact good_asc (q4W (q3E h.val j hj)).1
theorem rd_self {x:Typ} {v:Vl} {f:Int->Vl->Bool} (h:fitK f x v=true):rdOk x x v=true:=by
 unfold rdOk;rw [decide_eq_true rfl,Bool.true_and];unfold fitK at h;by_cases k1:x.kind=1
 ·simp [k1]
 by_cases k2:x.kind=2
 ·simpa [k1,k2] using h
 by_cases k3:x.kind=3
 ·simpa [k1,k2,k3] using h
 by_cases k4:x.kind=4
 ·simp [k4] at h ⊢;exact .inl h
 ·simp [k2,k3,k4]
theorem rsn_self {S:List Typ} (h:DrF S) {x:Typ} (hx:x∈S):rsnP (mnsP S S) S x x=0:=by
 have ha:=h.asc hx;have be:=allP_self ha;unfold rsnP;rw [if_neg (by simp)];by_cases k2:x.kind=2
 ·rw [if_pos k2,if_neg (by omega)]
 rw [if_neg k2];by_cases k3:x.kind=3\/x.kind=7
 ·rw [if_pos k3,if_neg (by omega)]
 rw [if_neg k3];by_cases k8:x.kind=8
 ·rw [if_pos k8,if_neg (by omega)]
 rw [if_neg k8];by_cases k4:x.kind=4
 ·rw [if_pos k4,if_pos (.inr be)]
 rw [if_neg k4];by_cases k6:x.kind=6
 ·rw [if_pos k6,if_pos (.inr be)]
 rw [if_neg k6];by_cases k5:x.kind=5
 ·rw [if_pos k5];have hr:=rec_self (mns:=mnsP S S) ha (fun f hf hh=>by
   have hp:=err_dflt h.err hx hf hh;have w:=(q1R h.val x hx).mems f hf;have g:=q7b w.1 w.2;unfold q60 at hp;rw [fitN,g,y7] at hp;have hp:=hp.2;simp only [y7] at hp;unfold mnsP;rw [rd_self hp.2,Vl.same_refl];rfl) x.mems fun g hg=>hg
  rw [qa0,if_pos hr,if_neg];simp only [List.any_eq_true,not_exists,not_and];intro f hf;simp [crP,(mem_own ha hf).1]
 ·rw [if_neg k5]
theorem self_reached {S:List Typ} (h:DrF S) {t:Int} (h0:0<=t) (h1:t<S.length):∀ q∈prs (bfsE (nxP S S) (t,t)),(0<=q.1/\q.1<S.length)/\q.1=q.2:=by
 have hF:=simF h h;refine qam (P:=fun q=>(0<=q.1/\q.1<S.length)/\q.1=q.2) ⟨⟨h0,h1⟩,rfl⟩ (fun p hp q hq=>?_) 1024;obtain ⟨a,b⟩:=p;obtain ⟨⟨p0,p1⟩,p2⟩:=hp;dsimp only at p0 p1 p2;subst p2;have hr:=hF.rng (a,a) ⟨p0,p1,p0,p1⟩ q hq;exact ⟨⟨hr.1,hr.2.1⟩,next_self (h.asc (q7Z p0 p1)) hq⟩
theorem fine_self {S:List Typ} (h:DrF S) {t:Int} (h0:0<=t) (h1:t<S.length):q8q (nxP S S) (rsP S S) (t,t)=true:=by
 unfold q8q;rw [y4];intro q hq;obtain ⟨⟨q0,q1⟩,q2⟩:=self_reached h h0 h1 q hq;obtain ⟨a,b⟩:=q;dsimp only at q0 q1 q2;subst q2;exact decide_eq_true (rsn_self h (q7Z q0 q1))
theorem cmp_self {x:Rt} (hx:RtD x) {z:Bool} (h:evA 21 [.agg (rtC x),.agg (rtC x)] (.tup [.bool z,.int .i64 0])):z=true:=by
 obtain ⟨l1,o1,e1,a0,a1⟩:=hx;obtain ⟨S1,t⟩:=x;dsimp only at e1 a0 a1;subst e1;have hz:=botE_zero (n:=(q0k l1).length) (m:=(q0k l1).length) ⟨a0,a1⟩ ⟨a0,a1⟩;have h1:=scompat_ev (q4g o1) (q4g o1) (i:=t) (k:=t) (fun _=>simF (draft_F o1) (draft_F o1)) (by dsimp only; rw [hz]; decide);dsimp only at h1;rw [hz,fine_self (draft_F o1) a0 a1] at h1;simp only [evA,rtC] at h h1;rw [h1] at h;simpa using h.symm
theorem evG_ind {b:C} {r:RV} (n:Nat) (I:Nat->MSt->Prop) (E:Ex->MSt->Prop)
  (step:∀ i,i<=n->∀ s k,I i s->(i<n->∀ s',I (i + 1) s'->evL allT q9T b s' k=some r)->(∀ e s',E e s'->k e s'=some r)->evL allT q9T b s k=some r)
  (s:MSt) (k:Ex->MSt->Option RV) (h:I 0 s) (hk:∀ e s',E e s'->k e s'=some r):evL allT q9T b s k=some r:=by
 have:∀ m i,i + m=n->∀ s,I i s->evL allT q9T b s k=some r:=by
  intro m
  induction m with
  | zero=>intro i hi s h; exact step i (by omega) s k h (fun fa=>absurd fa (by omega)) hk
  | succ m ih=>intro i hi s h; exact step i (by omega) s k h (fun _ s' h'=>ih (i + 1) (by omega) s' h') hk
 exact this n 0 (by omega) s h
theorem hmatrix_ev {dn cn:Bool} {l:List Nde} {css:List Chs} {T:Int} (h:HistOk l css T):evG 11 [.agg (histC dn l cn css T)] (.bool true):=by
 refine q9O q1n rfl rfl ?_ (by rfl);have fx:=awake24_ev;obtain ⟨r,hr,gp⟩:=of24_ev (dn:=dn) (cn:=cn) h;have gp:=qbE qbL gp;simp only [evG] at fx;rcases hr with rfl | ⟨L,l1,l5,hL,rfl⟩
 ·simp only [histC,badR] at gp ⊢;simp [q1n,-V,-y3,-y0,J,gp,fx]
 ·obtain ⟨cp,hc⟩:=cmpE_ex hL;have la:∀ x∈L,x.ok:=fun x hx=>(hL x hx).ok
  have hd:∀ i,i<L.length->cp i i=true:=fun i hi=>cmp_self (hL L[i] (y6 hi)) (hc i i L[i] L[i] (by simp [hi]) (by simp [hi])).1
  have f1:=ev_G (q9Z false (by omega) (by omega) la hc);have f2:=ev_G (rmatrix_ev false (by omega) (by omega) la hc);have f3:=ev_G (table_same cp (n:=L.length) (by omega));obtain ⟨M,hM⟩:∃ M,M=(List.range L.length).map fun i=>[rowM cp i L.length]:=⟨_,rfl⟩
  have hl:M.length=L.length:=by rw [hM]; simp
  simp only [evG,histC,matA,<- hM] at f1 f2 f3 gp ⊢;simp [q1n,-V,-y3,-y0,J,gp,fx,f1,f2,f3];refine evG_ind L.length (fun i s=>(s.env 5).v=.sl false M/\(s.env 54).v=.int .i64 L.length/\(s.env 55).v=.int .i64 i)
   (fun e s=>e=.exit 0) (fun i hi s k h ih hk=>?_) _ _ ?_ (fun e s h=>?_)
  ·obtain ⟨e5,cG,dK⟩:=h;refine q02 ?_;by_cases fa:i<L.length
   ·have ga:(i:Int)<L.length:=by omega
    have hw:=q0s (i:=i);have g1:M[i]?=some [rowM cp i L.length]:=by rw [hM]; simp [fa]
    have g2:((List.range L.length).map fun m=>[AV.bool (cp i m)])[i]?=some [.bool true]:=by simp [fa,hd i fa]
    simp only [rowM] at g1;generalize ((List.range L.length).map fun m=>[AV.bool (cp i m)])=R at *
    simp [q2K,-V,-y3,-y0,J,e5,cG,dK,ga,g1,g2,hw];refine ih fa _ ⟨?_,?_,?_⟩ <;> simp [e5,cG]
   ·have ga:¬ (i:Int)<L.length:=by omega
    simp [q2K,-V,-y3,-y0,J,cG,dK,ga];exact hk _ _ rfl
  ·refine ⟨?_,?_,?_⟩ <;> simp [hl]
  ·subst h;simp [-V,-y3,-y0,J]
end Go.Proofs.YtbnlmgncbgaepaaGreat
