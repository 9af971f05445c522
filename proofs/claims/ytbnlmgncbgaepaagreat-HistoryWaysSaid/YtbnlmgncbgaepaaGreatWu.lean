/- A part of the proof. -/
import Derived.Test.YtbnlmgncbgaepaaGreatWm
import Derived.Test.YtbnlmgncbgaepaaGreatWs
set_option linter.all false
set_option maxRecDepth 100000
set_option maxHeartbeats 8000000
open Option renaming bind_some → V
open List renaming range_succ → J, map_map → y0, all_eq_true → y4, getElem?_eq_getElem → y5, getElem_mem → y6, drop_eq_getElem_cons → y9, getElem?_eq_some_iff → yb, getElem?_map → yc, mem_cons → yf, mem_of_getElem? → yj, mem_cons_self → yk, map_congr_left → yl, length_map → yo, length_append → yp, mem_cons_of_mem → yq, map_nil → yr, mem_append → yu, getElem_of_mem → yx, replicate → yA, getElem?_eq_none → yL, append_nil → yO, mem_singleton → yU
open Int renaming toNat_lt → y3, tmod_eq_emod_of_nonneg → yy, emod_nonneg → yJ, emod_lt_of_pos → yM
open Bool renaming and_eq_true → y7, false_eq_true → yn
open Nat renaming le_refl → ym, succ_mul → yt
namespace Go.Proofs.YtbnlmgncbgaepaaGreat
open Go

section
open Go Go.RowKit Go.ChangeShapes Go.WideShapes
theorem mixed:Tryz.prog.follows .mixedOrders=true:=by kernel_rfl
theorem u8_of {n:Int} (h:(Lit.int .u8 n).wf=true):u8 n:=by
 simp only [Lit.wf,y7,decide_eq_true_eq] at h;have h1:IntKind.u8.min=0:=rfl;have h2:IntKind.u8.max=255:=rfl;exact ⟨by omega,by omega⟩
theorem q8F {H:Type} {P:Program} {m:Nat}:∀ {ts us:List TypeId} {ds gs:List (DataW H)},m∈DataW.weightsEach P ts ds->ts.length=ds.length->m∈DataW.weightsEach P (ts++us) (ds++gs)
 | [],_,[],_,h,_=>by simp [DataW.weightsEach] at h
 | [],_,_ :: _,_,_,h=>by simp at h
 | _ :: _,_,[],_,_,h=>by simp at h
 | t :: ts,us,d :: ds,gs,h,hl=>by
  simp only [DataW.weightsEach,yu,List.cons_append] at h ⊢;rcases h with h | h
  ·exact .inl h
  ·exact .inr (q8F h (by simpa using hl))
theorem list_T {α:Type} {P:List AV->Prop} {f:α->List AV} {p:α->Prop} (h:∀ x,P x->∃ o,x=f o/\p o):∀ els:List (List AV),(∀ x∈els,P x)->∃ L:List α,els=L.map f/\∀ o∈L,p o
 | [],_=>⟨[],rfl,fun _ h=>by cases h⟩
 | x :: r,hx=>by
  obtain ⟨L,h1,h2⟩:=list_T h r fun y hy=>hx y (yq _ hy)
  obtain ⟨o,h3,h4⟩:=h x (hx x yk);refine ⟨o :: L,by rw [h1,h3]; rfl,fun y hy=>?_⟩;rcases yf.1 hy with rfl | hy
  ·exact h4
  ·exact h2 y hy
theorem bytesNode:Tryz.prog.bytesOf 127=32:=by kernel_rfl
theorem bytesPart:Tryz.prog.bytesOf 165=3:=by kernel_rfl
theorem reachB:reachBytes=140737488351232:=rfl
section
variable {n:Nat} {a:List AV}
include n a
theorem tyU (h:TyT Tryz.prog n 5 a):∃ x,a=[.int .u8 x]/\u8 x:=by
 cases n with
 | zero=>exact h.elim
 | succ n =>
  simp only [TyT,Tryz.underlying5] at h;obtain ⟨x,rfl,hx⟩:=h;exact ⟨x,rfl,u8_of hx⟩
theorem tyPart (h:TyT Tryz.prog n 165 a):∃ p:Prt,a=prtC p/\p.ok:=by
 cases n with
 | zero=>exact h.elim
 | succ n =>
  simp only [TyT,Tryz.underlying165,qaS] at h;obtain ⟨_,_,rfl,_,h1,_,_,rfl,_,h2,_,_,rfl,_,h3,rfl⟩:=h;obtain ⟨x1,rfl,u1⟩:=tyU h1;obtain ⟨x2,rfl,u2⟩:=tyU h2;obtain ⟨x3,rfl,u3⟩:=tyU h3;exact ⟨⟨x1,x2,x3⟩,rfl,u1,u2,u3⟩
theorem tyChg (h:TyT Tryz.prog n 162 a):∃ c:Chg,a=chgC c/\c.ok:=by
 cases n with
 | zero=>exact h.elim
 | succ n =>
  simp only [TyT,Tryz.underlying162,qaS] at h;obtain ⟨_,_,rfl,_,h1,_,_,rfl,_,h2,_,_,rfl,_,h3,_,_,rfl,_,h4,rfl⟩:=h;obtain ⟨x1,rfl,u1⟩:=tyU h1;obtain ⟨x2,rfl,u2⟩:=tyU h2;obtain ⟨x3,rfl,u3⟩:=tyU h3;obtain ⟨x4,rfl,u4⟩:=tyU h4;exact ⟨⟨x1,x2,x3,x4⟩,rfl,u1,u2,u3,u4⟩
theorem tyParts (h:TyT Tryz.prog n 125 a):∃ nl,∃ ps:List Prt,a=[.sl nl (ps.map prtC)]/\(∀ p∈ps,p.ok)/\ps.length * 3<=140737488351232:=by
 cases n with
 | zero=>exact h.elim
 | succ n =>
  simp only [TyT,Tryz.underlying125,bytesPart,reachB] at h;obtain ⟨nl,els,rfl,_,h2,_,h4⟩:=h;obtain ⟨L,rfl,hL⟩:=list_T (P:=fun x=>TyT Tryz.prog n 165 x) (fun x hx=>tyPart hx) els (fun x hx=>(h4 x hx).2);exact ⟨nl,L,rfl,hL,by simpa using h2⟩
theorem tyChgs (h:TyT Tryz.prog n 25 a):∃ nl,∃ ps:List Chg,a=[.sl nl (ps.map chgC)]/\(∀ p∈ps,p.ok)/\ps.length<=9223372036854775807:=by
 cases n with
 | zero=>exact h.elim
 | succ n =>
  simp only [TyT,Tryz.underlying25] at h;obtain ⟨nl,els,rfl,h1,_,_,h4⟩:=h;obtain ⟨L,rfl,hL⟩:=list_T (P:=fun x=>TyT Tryz.prog n 162 x) (fun x hx=>tyChg hx) els (fun x hx=>(h4 x hx).2);exact ⟨nl,L,rfl,hL,by simpa [maxLen] using h1⟩
theorem tyNode (h:TyT Tryz.prog n 127 a):∃ x:Nde,a=ndeC x/\x.ok/\x.sized:=by
 cases n with
 | zero=>exact h.elim
 | succ n =>
  simp only [TyT,Tryz.underlying127,qaS] at h;obtain ⟨_,_,rfl,_,h1,_,_,rfl,_,h2,_,_,rfl,_,h3,_,_,rfl,_,h4,_,_,rfl,_,h5,rfl⟩:=h;obtain ⟨x1,rfl,u1⟩:=tyU h1;obtain ⟨x2,rfl,u2⟩:=tyU h2;obtain ⟨x3,rfl,u3⟩:=tyU h3;obtain ⟨x4,rfl,u4⟩:=tyU h4;obtain ⟨nl,ps,rfl,p1,p2⟩:=tyParts h5;exact ⟨⟨x1,x2,x3,x4,nl,ps⟩,rfl,⟨u1,u2,u3,u4,by dsimp only; omega,p1⟩,by unfold Nde.sized; dsimp only; omega⟩
theorem tyDraft (h:TyT Tryz.prog n 24 a):∃ nl,∃ l:List Nde,a=[.sl nl (l.map ndeC)]/\(∀ x∈l,x.ok/\x.sized)/\l.length * 32<=140737488351232:=by
 cases n with
 | zero=>exact h.elim
 | succ n =>
  simp only [TyT,Tryz.underlying24,qaS] at h;obtain ⟨_,_,rfl,_,h1,rfl⟩:=h;cases n with
  | zero=>exact h1.elim
  | succ n =>
   simp only [TyT,Tryz.underlying22,bytesNode,reachB] at h1;obtain ⟨nl,els,rfl,_,h2,_,h4⟩:=h1;obtain ⟨L,rfl,hL⟩:=list_T (P:=fun x=>TyT Tryz.prog n 127 x) (fun x hx=>tyNode hx) els (fun x hx=>(h4 x hx).2);exact ⟨nl,L,rfl,hL,by simpa using h2⟩
end
end
abbrev Rt:=Sch × Int
def rtC (x:Rt):List AV:=q3d x.1 x.2
def Rt.ok (x:Rt):Prop:=SndE x.1 0/\0<=x.2/\x.2<x.1.types.length
theorem hvalid_ev (b:Bool) (L:List Rt) (hl:L.length<=8) (hL:∀ x∈L,x.ok):evA 103 [.sl b (L.map rtC)] (.int .i64 0):=by
 refine q00 (c:=q4t) rfl rfl ?_;have h8:¬ (8:Int)<L.length:=by omega
 simp [q4t,-V,-y3,-y0,J,h8];refine q06 L.length (fun i s=>(s.env 9).v=.sl b (L.map rtC)/\(s.env 10).v=.int .i64 L.length/\(s.env 11).v=.int .i64 i)
  (fun e s=>e=.exit 0) (fun i hi s k h ih hk=>?_) _ _ ?_ (fun e s h=>?_)
 ·obtain ⟨e9,e10,e11⟩:=h;refine q02 ?_;by_cases fa:i<L.length
  ·have ga:(i:Int)<L.length:=by omega
   have g1:(L.map rtC)[i]?=some (rtC L[i]):=by simp [fa]
   have hw:=q0s (i:=i);obtain ⟨⟨hx,_⟩,h0,h1⟩:=hL L[i] (y6 _);generalize L[i]=x at *
   obtain ⟨S,t⟩:=x;have af:¬ t<0:=by dsimp only at h0; omega
   have xj:¬ (S.types.length:Int)<=t:=by dsimp only at h1; omega
   simp only [evA,rtC,q3d,schC] at g1 hx;simp [q4u,-V,-y3,-y0,J,e9,e10,e11,ga,g1,hx,hw,af,xj];refine ih fa _ ⟨?_,?_,?_⟩
   all_goals simp [e9,e10]
  ·have ga:¬ (i:Int)<L.length:=by omega
   simp [q4u,-V,-y3,-y0,J,e10,e11,ga];exact hk _ _ rfl
 ·simp
 ·subst h;simp [-V,-y3,-y0,J]
theorem q9S (b:Bool) (L:List Rt) (hl:L.length<=8) (hL:∀ x∈L,x.ok):evA 58 [.sl b (L.map rtC)] (.int .i64 0):=by
 refine q00 (c:=q6e) rfl rfl ?_;have h8:¬ (8:Int)<L.length:=by omega
 simp [q6e,-V,-y3,-y0,J,h8];refine q06 L.length (fun i s=>(s.env 0).v=.sl b (L.map rtC)/\(s.env 3).v=.int .i64 i)
  (fun e s=>e=.exit 0) (fun i hi s k h ih hk=>?_) _ _ ?_ (fun e s h=>?_)
 ·obtain ⟨e0,e3⟩:=h;refine q02 ?_;by_cases fa:i<L.length
  ·have ga:(i:Int)<L.length:=by omega
   have g1:(L.map rtC)[i]?=some (rtC L[i]):=by simp [fa]
   have hw:=q0s (i:=i);obtain ⟨⟨_,hx⟩,h0,h1⟩:=hL L[i] (y6 _);generalize L[i]=x at *
   obtain ⟨S,t⟩:=x;have af:¬ t<0:=by dsimp only at h0; omega
   have xj:¬ (S.types.length:Int)<=t:=by dsimp only at h1; omega
   simp only [evA,rtC,q3d,schC] at g1 hx;simp [q5Q,-V,-y3,-y0,J,e0,e3,ga,g1,hx,hw,af,xj];refine ih fa _ ⟨?_,?_⟩
   all_goals simp [e0]
  ·have ga:¬ (i:Int)<L.length:=by omega
   simp [q5Q,-V,-y3,-y0,J,e0,e3,ga];exact hk _ _ rfl
 ·simp
 ·subst h;simp [-V,-y3,-y0,J]
abbrev Chs:=Bool × List Chg
def chsC (c:Chs):List AV:=[.sl c.1 (c.2.map chgC)]
def histC (dn:Bool) (l:List Nde) (cn:Bool) (css:List Chs) (T:Int):List AV:=[.sl dn (l.map ndeC),.sl cn (css.map chsC),.int .u8 T]
def RtD (x:Rt):Prop:=∃ l,oks l/\x.1=⟨false,q0k l⟩/\0<=x.2/\x.2<(q0k l).length
structure OhI (dn:Bool) (l:List Nde) (cn:Bool) (css:List Chs) (T t:Int) (n4 n8 i:Nat) (L:List Rt) (s:MSt):Prop where
 e1:(s.env 1).v=.ptr 1 1 0
 m1:s.mem 1 1=some [⟨.sl dn (l.map ndeC),.no⟩,⟨.sl cn (css.map chsC),.no⟩,⟨.int .u8 T,.no⟩]
 e4:(s.env 4).v=.ptr 4 n4 0
 m4:∃ c,s.mem 4 n4=some [c]
 e8:(s.env 8).v=.ptr 8 n8 0
 m8:∃ (d2:Bool) (l2:List Nde),s.mem 8 n8=some [⟨.sl d2 (l2.map ndeC),.no⟩]/\(∀ x∈l2,x.ok/\x.sized)/\l2.length=l.length
 e6:(s.env 6).v=.int .i64 t
 e7:(s.env 7).v=.sl false (L.map rtC)
 a7:(s.env 7).a=.ex\/(s.env 7).a=.own 70 33
 e9:(s.env 9).v=.int .i64 i
theorem els_rt (L:List Rt):q13 2 (L.map rtC)=true:=q1a _ _ _ fun _=>rfl
def Gives (P:RV->Prop) (o:Option RV):Prop:=∃ r,P r/\o=some r
theorem q8P {P:RV->Prop} {b:C} {s:MSt} {k:Ex->MSt->Option RV} (h:Gives P (b.run (evC allT q01) (evK allT q01) s (q83 (evL allT q01) b k))):Gives P (evL allT q01 b s k):=by
 obtain ⟨r,h1,h2⟩:=h;exact ⟨r,h1,q02 h2⟩
def badR:AV:=.tup [.sl true [],.bool false]
theorem of24_in {dn cn:Bool} {l:List Nde} {css:List Chs} {T t:Int} {n4 n8:Nat} (hl:1<=l.length/\l.length<=5) (h0:0<=t) (h1:t<l.length) (kj:css.length<=4) (bH:∀ c∈css,(∀ x∈c.2,x.ok)/\c.2.length<=9223372036854775807) (s:MSt) (L:List Rt) (hI:OhI dn l cn css T t n4 n8 0 L s) (hL:L.length=1) (hR:∀ x∈L,RtD x) (k:Ex->MSt->Option RV) (P:RV->Prop)
  (hk:∀ (L':List Rt) (s':MSt),L'.length=css.length + 1->(∀ x∈L',RtD x)->(s'.env 7).v=.sl false (L'.map rtC)->Gives P (k (.exit 0) s'))
  (hr:∀ s':MSt,(s'.env 2).v=.sl true []->(s'.env 3).v=.bool false->Gives P (k .ret s')):Gives P (evL allT q01 q2W s k):=by
 have main:∀ m i,i + m=css.length->∀ s L,OhI dn l cn css T t n4 n8 i L s->L.length=i + 1->(∀ x∈L,RtD x)->Gives P (evL allT q01 q2W s k):=by
  intro m
  induction m with
  | zero =>
   intro i hi s L hI hL hR;obtain ⟨e1,m1,e4,m4,e8,m8,e6,e7,a7,e9⟩:=hI;have sO:i=css.length:=by omega
   subst sO;refine q8P ?_;simp [q2W,-V,-y3,-y0,J,e1,m1,e9];exact hk L _ hL hR (by simp [e7])
  | succ m ih =>
   intro i hi s L hI hL hR;obtain ⟨e1,m1,e4,⟨c4,m4⟩,e8,⟨d2,l2,m8,nn,rf⟩,e6,e7,a7,e9⟩:=hI;have fa:i<css.length:=by omega
   have ga:(i:Int)<css.length:=by omega
   have g1:(css.map chsC)[i]?=some (chsC css[i]):=by simp [fa]
   have xf:=bH css[i] (y6 _);have hw:=q0s (i:=i);generalize css[i]=c at *
   simp only [chsC] at g1;by_cases h3:3<c.2.length
   ·have zB:(3:Int)<c.2.length:=by omega
    refine q8P ?_;simp [q2W,-V,-y3,-y0,J,e1,m1,e9,ga,g1,zB,h3];exact hr _ (by simp) (by simp)
   ·obtain ⟨r1,⟨l3,uK,hl3l,rfl⟩,sv⟩:=changed_ev2 (dn:=d2) (cn:=c.1) nn (by omega) xf.1 xf.2;rcases of07_ev (dn:=false) (l:=l3) (fun x hx=>(uK x hx).1) with ⟨la,ho⟩ | ⟨_,ho⟩
    ·have zB:¬ (3:Int)<c.2.length:=by omega
     have ba:q0G 32 (i + 1 + 1)=true:=by rw [q0d]; omega
     have q1:=els_rt L;simp only [evA,dftC] at ho sv;have tb:∀ x∈L++[((⟨false,q0k l3⟩,t):Rt)],RtD x:=fun x hx=>by
      rcases yu.1 hx with hx | hx
      ·exact hR x hx
      ·rw [yU.1 hx];exact ⟨l3,la,rfl,h0,by simp [q0k]; omega⟩
     have hmap:(L++[((⟨false,q0k l3⟩,t):Rt)]).map rtC=L.map rtC++[[.sl false ((q0k l3).map typC),.int .i64 t]]:=by simp [rtC,q3d]
     have dq:=fun s' h=>ih (i + 1) (by omega) s' (L++[((⟨false,q0k l3⟩,t):Rt)]) h (by simp [hL]) tb
     generalize q0k l3=S3 at *
     refine q8P ?_;rcases a7 with a7 | a7
     all_goals
      simp [q2W,-V,-y3,-y0,J,e1,m1,e4,m4,e6,e7,a7,e8,m8,e9,ga,g1,zB,sv,ho,hL,ba,q1,anN,hw];refine dq _ ⟨?_,?_,?_,⟨⟨.sl false (S3.map typC),.no⟩,?_⟩,?_,⟨false,l3,?_,uK,by omega⟩,?_,?_,.inr ?_,?_⟩
      all_goals first | (simp [e1,m1,e4,m4,e6,e8,m8,rtC,q3d]; done) | (simp; rfl)
    ·have zB:¬ (3:Int)<c.2.length:=by omega
     simp only [evA,dftC] at ho sv;refine q8P ?_;simp [q2W,-V,-y3,-y0,J,e1,m1,e4,m4,e8,m8,e9,ga,g1,zB,sv,ho];exact hr _ (by simp) (by simp)
 exact main css.length 0 (by omega) s L hI hL hR
theorem gives_call {P:RV->Prop} {f:Nat} {c:FnC} {args:List AV} (hT:allT f=some c) (hl:args.length=c.np) (hm:q6K args=false) (h:Gives P (c.code.run (evC allT q01) (evK allT q01) (MSt.init args none) (fin c none))):Gives P (evC allT q01 f args none):=by
 obtain ⟨r,h1,h2⟩:=h;exact ⟨r,h1,q00 hT hl h2 hm⟩
structure HistOk (l:List Nde) (css:List Chs) (T:Int):Prop where
 nds:∀ x∈l,x.ok/\x.sized
 chs:∀ c∈css,(∀ x∈c.2,x.ok)/\c.2.length<=9223372036854775807
 t:u8 T
def HistR (r:RV):Prop:=r=(badR,none)\/∃ L:List Rt,1<=L.length/\L.length<=5/\(∀ x∈L,RtD x)/\r=(.tup [.sl false (L.map rtC),.bool true],none)
theorem of24_ev {dn cn:Bool} {l:List Nde} {css:List Chs} {T:Int} (h:HistOk l css T):Gives HistR (evC allT q01 44 [.agg (histC dn l cn css T)] none):=by
 refine gives_call (c:=q6r) rfl rfl rfl ?_;obtain ⟨t0,t1⟩:=h.t;have xP:IntKind.i64.wrap T=T:=IntWalk.i64_in _ (by omega);rcases of07_ev (dn:=dn) (l:=l) (fun x hx=>(h.nds x hx).1) with ⟨la,ho⟩ | ⟨_,ho⟩
 ·simp only [evA,dftC] at ho;by_cases h4:4<css.length
  ·have uA:(4:Int)<css.length:=by omega
   simp [q6r,histC,-V,-y3,-y0,J,ho,h4,uA];exact ⟨_,.inl rfl,rfl⟩
  ·have uA:¬ (4:Int)<css.length:=by omega
   have hS:(q0k l).length=l.length:=by simp [q0k]
   have p1:=la.1;have p2:=la.2.1;have a0:=yJ T (b:=((q0k l).length:Int)) (by omega);have a1:=yM T (b:=((q0k l).length:Int)) (by omega);have am:T.tmod (q0k l).length=T % (q0k l).length:=yy t0;have n1:¬ (q0k l)=[]:=fun e=>by rw [e] at hS; simp at hS; omega
   have n2:¬ (q0k l).length=0:=by omega
   generalize ht:T % ((q0k l).length:Int)=t at *
   have hR:∀ x∈[((⟨false,q0k l⟩,t):Rt)],RtD x:=fun x hx=>by
    rw [yU.1 hx];exact ⟨l,la,rfl,a0,by simpa using a1⟩
   simp [q6r,histC,-V,-y3,-y0,J,ho,uA,xP,am,n1,n2];refine of24_in (dn:=dn) (l:=l) (cn:=cn) (css:=css) (T:=T) (t:=t) (n4:=2) (n8:=6) ⟨p1,p2⟩ a0 (by omega) (by omega) h.chs _ [((⟨false,q0k l⟩,t):Rt)] ⟨?_,?_,?_,⟨⟨.sl false ((q0k l).map typC),.no⟩,?_⟩,?_,⟨dn,l,?_,h.nds,rfl⟩,?_,?_,.inl ?_,?_⟩ rfl hR _ HistR (fun L' s' rq pN h7=>?_) (fun s' h2 h3=>?_)
   all_goals try (simp [rtC,q3d]; done)
   ·simp [-V,-y3,-y0,J,h7];exact ⟨_,.inr ⟨L',by omega,by omega,pN,rfl⟩,rfl⟩
   ·simp [-V,-y3,-y0,J,h2,h3];exact ⟨_,.inl rfl,rfl⟩
 ·simp only [evA,dftC] at ho;simp [q6r,histC,-V,-y3,-y0,J,ho];exact ⟨_,.inl rfl,rfl⟩
section
open Go Go.RowKit Go.ChangeShapes Go.WideShapes
def histTs:List TypeId:=[78,76,24,22,127,125,165,25,162,5]
theorem histTs_good:histTs.all (qaX Tryz.prog histTs)=true:=by kernel_rfl
theorem tyChss {n:Nat} {a:List AV} (h:TyT Tryz.prog n 76 a):∃ nl,∃ ps:List Chs,a=[.sl nl (ps.map chsC)]/\∀ c∈ps,(∀ x∈c.2,x.ok)/\c.2.length<=9223372036854775807:=by
 cases n with
 | zero=>exact h.elim
 | succ n =>
  simp only [TyT,Tryz.underlying76] at h;obtain ⟨nl,els,rfl,_,_,_,h4⟩:=h;obtain ⟨L,rfl,hL⟩:=list_T (P:=fun x=>TyT Tryz.prog n 25 x) (f:=chsC) (p:=fun c=>(∀ x∈c.2,x.ok)/\c.2.length<=9223372036854775807) (fun x hx=>by
   obtain ⟨b,ps,e,h1,h2⟩:=tyChgs hx;exact ⟨(b,ps),e,h1,h2⟩) els (fun x hx=>(h4 x hx).2)
  exact ⟨nl,L,rfl,hL⟩
theorem histTy {a:AV} (h:ParT Tryz.prog 78 a):∃ dn,∃ l:List Nde,∃ cn,∃ css:List Chs,∃ T:Int,a=.agg (histC dn l cn css T)/\HistOk l css T:=by
 obtain ⟨n,⟨_,c,rfl,h⟩ | ⟨hw,_⟩⟩:=h
 ·cases n with
  | zero=>exact h.elim
  | succ n =>
   simp only [TyT,Tryz.underlying78,qaS] at h;obtain ⟨_,_,rfl,_,h1,_,_,rfl,_,h2,_,_,rfl,_,h3,rfl⟩:=h;obtain ⟨dn,l,rfl,l1,l2⟩:=tyDraft h1;obtain ⟨cn,css,rfl,c1⟩:=tyChss h2;obtain ⟨T,rfl,u3⟩:=tyU h3;exact ⟨dn,l,cn,css,T,rfl,l1,c1,u3⟩
 ·have uc:q92 Tryz.prog 78=true:=by kernel_rfl
  rw [uc] at hw;cases hw
end
def CmpE (L:List Rt) (cp:Nat->Nat->Bool):Prop:=∀ i j x y,L[i]?=some x->L[j]?=some y->evA 21 [.agg (rtC x),.agg (rtC y)] (.tup [.bool (cp i j),.int .i64 0])/\evA 29 [.agg (rtC x),.agg (rtC y)] (.tup [.bool (cp i j),.int .i64 0])
def allB (f:Nat->Bool):Nat->Bool
 | 0=>true
 | n + 1=>allB f n&&f n
theorem q9R (b:Bool) {L:List Rt} {cp:Nat->Nat->Bool} (hc:CmpE L cp) {i j:Nat} (hi:i<L.length) (hj:j<L.length):evA 104 [.sl b (L.map rtC),.int .i64 i,.int .i64 j] (.bool (cp i j)):=by
 refine q00 (c:=q3j) rfl rfl ?_;have g1:(L.map rtC)[i]?=some (rtC L[i]):=by simp [hi]
 have g2:(L.map rtC)[j]?=some (rtC L[j]):=by simp [hj]
 have h:=(hc i j L[i] L[j] (by simp [hi]) (by simp [hj])).2;generalize L[i]=x at *
 generalize L[j]=y at *
 simp only [evA,rtC,q3d] at g1 g2 h;simp [q3j,-V,-y3,-y0,J,g1,g2,h]
theorem q4l {f:Nat->Bool} {n:Nat} (k:Nat) (hk:k<n) (h:f k=false):allB f n=false:=by
 induction n with
 | zero=>omega
 | succ n ih =>
  unfold allB;by_cases e:k=n
  ·subst e; simp [h]
  ·rw [ih (by omega)]; rfl
def bwP (cp:Nat->Nat->Bool) (n:Nat):Bool:=allB (fun k=>allB (fun j=>cp j k) k) n
def fwP (cp:Nat->Nat->Bool) (n:Nat):Bool:=allB (fun k=>allB (fun j=>cp k j) k) n
theorem rbw_in {rv:RV} {b:Bool} {L:List Rt} {cp:Nat->Nat->Bool} (hl:L.length<=8) (hc:CmpE L cp) {k:Nat} (kh:k<L.length) (s:MSt) (e0:(s.env 0).v=.sl b (L.map rtC)) (e5:(s.env 5).v=.int .i64 k) (e6:(s.env 6).v=.int .i64 0) (kk:Ex->MSt->Option RV)
  (hk:∀ s',(s'.env 0).v=.sl b (L.map rtC)->(s'.env 5).v=.int .i64 k->allB (fun j=>cp j k) k=true->kk (.exit 2) s'=some rv)
  (hr:∀ s',(s'.env 2).v=.bool false->(s'.env 3).v=.int .i64 0->allB (fun j=>cp j k) k=false->kk .ret s'=some rv):evL allT q01 q2e s kk=some rv:=by
 refine q06 k (fun j s=>(s.env 0).v=.sl b (L.map rtC)/\(s.env 5).v=.int .i64 k/\(s.env 6).v=.int .i64 j/\allB (fun j=>cp j k) j=true)
  (fun e s=>(e=.exit 2/\(s.env 0).v=.sl b (L.map rtC)/\(s.env 5).v=.int .i64 k/\allB (fun j=>cp j k) k=true)\/(e=.ret/\(s.env 2).v=.bool false/\(s.env 3).v=.int .i64 0/\allB (fun j=>cp j k) k=false)) (fun j hj s k' h ih hk=>?_) _ _ ⟨e0,e5,e6,rfl⟩ (fun e s h=>by
   rcases h with ⟨rfl,h1,h2,h3⟩ | ⟨rfl,h1,h2,h3⟩
   ·exact hk _ h1 h2 h3
   ·exact hr _ h1 h2 h3)
 obtain ⟨e0,e5,e6,ha⟩:=h;refine q02 ?_;by_cases fa:j<k
 ·have ga:(j:Int)<k:=by omega
  have hw:=q0s (i:=j);have q:=q9R b hc (i:=j) (j:=k) (by omega) (by omega);simp only [evA] at q;have za:allB (fun j=>cp j k) (j + 1)=(allB (fun j=>cp j k) j&&cp j k):=rfl;rw [ha] at za;have hf:=q4l (f:=fun j=>cp j k) (n:=k) j fa;generalize cp j k=z at *
  cases z
  ·simp [q2e,-V,-y3,-y0,J,e0,e5,e6,ga,hw,q];exact hk _ _ (.inr ⟨rfl,by simp,by simp,hf rfl⟩)
  ·simp [q2e,-V,-y3,-y0,J,e0,e5,e6,ga,hw,q];refine ih fa _ ⟨?_,?_,?_,za⟩
   all_goals simp [e0,e5]
 ·have gw:j=k:=by omega
  subst gw;simp [q2e,-V,-y3,-y0,J,e0,e5,e6];exact hk _ _ (.inl ⟨rfl,e0,e5,ha⟩)
theorem rbw_ev (b:Bool) {L:List Rt} (hl:L.length<=8) (hL:∀ x∈L,x.ok) {cp:Nat->Nat->Bool} (hc:CmpE L cp):evA 51 [.sl b (L.map rtC)] (.tup [.bool (bwP cp L.length),.int .i64 0]):=by
 refine q00 (c:=q42) rfl rfl ?_;have he:=q9S b L hl hL;simp only [evA] at he;simp [q42,-V,-y3,-y0,J,he];refine q06 L.length (fun k s=>(s.env 0).v=.sl b (L.map rtC)/\(s.env 5).v=.int .i64 k/\bwP cp k=true)
  (fun e s=>(e=.exit 0/\bwP cp L.length=true)\/(e=.ret/\(s.env 2).v=.bool false/\(s.env 3).v=.int .i64 0/\bwP cp L.length=false)) (fun k th s k' h ih hk=>?_) _ _ ?_ (fun e s h=>?_)
 ·obtain ⟨e0,e5,ha⟩:=h;refine q02 ?_;by_cases fa:k<L.length
  ·have ga:(k:Int)<L.length:=by omega
   have hw:=q0s (i:=k);have za:bwP cp (k + 1)=(bwP cp k&&allB (fun j=>cp j k) k):=rfl;rw [ha] at za;have hf:=q4l (f:=fun k=>allB (fun j=>cp j k) k) (n:=L.length) k fa;simp [q4e,-V,-y3,-y0,J,e0,e5,ga];refine rbw_in (b:=b) hl hc fa _ (by simp [e0]) (by simp [e5]) (by simp) _ (fun s' h1 h2 h3=>?_) (fun s' h1 h2 h3=>?_)
   ·rw [h3] at za;simp [-V,-y3,-y0,J,h1,h2,hw];refine ih fa _ ⟨?_,?_,za⟩
    all_goals simp [h1]
   ·simp [-V,-y3,-y0,J];exact hk _ _ (.inr ⟨rfl,h1,h2,hf h3⟩)
  ·have ji:k=L.length:=by omega
   subst ji;simp [q4e,-V,-y3,-y0,J,e0,e5];exact hk _ _ (.inl ⟨rfl,ha⟩)
 ·simp [bwP,allB]
 ·rcases h with ⟨rfl,h⟩ | ⟨rfl,h1,h2,h3⟩
  ·simp [-V,-y3,-y0,J,h]
  ·simp [-V,-y3,-y0,J,h1,h2,h3]
theorem rfw_in {rv:RV} {b:Bool} {L:List Rt} {cp:Nat->Nat->Bool} (hl:L.length<=8) (hc:CmpE L cp) {k:Nat} (kh:k<L.length) (s:MSt) (e0:(s.env 0).v=.sl b (L.map rtC)) (e5:(s.env 5).v=.int .i64 k) (e6:(s.env 6).v=.int .i64 0) (kk:Ex->MSt->Option RV)
  (hk:∀ s',(s'.env 0).v=.sl b (L.map rtC)->(s'.env 5).v=.int .i64 k->allB (fun j=>cp k j) k=true->kk (.exit 2) s'=some rv)
  (hr:∀ s',(s'.env 2).v=.bool false->(s'.env 3).v=.int .i64 0->allB (fun j=>cp k j) k=false->kk .ret s'=some rv):evL allT q01 q2u s kk=some rv:=by
 refine q06 k (fun j s=>(s.env 0).v=.sl b (L.map rtC)/\(s.env 5).v=.int .i64 k/\(s.env 6).v=.int .i64 j/\allB (fun j=>cp k j) j=true)
  (fun e s=>(e=.exit 2/\(s.env 0).v=.sl b (L.map rtC)/\(s.env 5).v=.int .i64 k/\allB (fun j=>cp k j) k=true)\/(e=.ret/\(s.env 2).v=.bool false/\(s.env 3).v=.int .i64 0/\allB (fun j=>cp k j) k=false)) (fun j hj s k' h ih hk=>?_) _ _ ⟨e0,e5,e6,rfl⟩ (fun e s h=>by
   rcases h with ⟨rfl,h1,h2,h3⟩ | ⟨rfl,h1,h2,h3⟩
   ·exact hk _ h1 h2 h3
   ·exact hr _ h1 h2 h3)
 obtain ⟨e0,e5,e6,ha⟩:=h;refine q02 ?_;by_cases fa:j<k
 ·have ga:(j:Int)<k:=by omega
  have hw:=q0s (i:=j);have q:=q9R b hc (i:=k) (j:=j) (by omega) (by omega);simp only [evA] at q;have za:allB (fun j=>cp k j) (j + 1)=(allB (fun j=>cp k j) j&&cp k j):=rfl;rw [ha] at za;have hf:=q4l (f:=fun j=>cp k j) (n:=k) j fa;generalize cp k j=z at *
  cases z
  ·simp [q2u,-V,-y3,-y0,J,e0,e5,e6,ga,hw,q];exact hk _ _ (.inr ⟨rfl,by simp,by simp,hf rfl⟩)
  ·simp [q2u,-V,-y3,-y0,J,e0,e5,e6,ga,hw,q];refine ih fa _ ⟨?_,?_,?_,za⟩
   all_goals simp [e0,e5]
 ·have gw:j=k:=by omega
  subst gw;simp [q2u,-V,-y3,-y0,J,e0,e5,e6];exact hk _ _ (.inl ⟨rfl,e0,e5,ha⟩)
theorem rfw_ev (b:Bool) {L:List Rt} (hl:L.length<=8) (hL:∀ x∈L,x.ok) {cp:Nat->Nat->Bool} (hc:CmpE L cp):evA 53 [.sl b (L.map rtC)] (.tup [.bool (fwP cp L.length),.int .i64 0]):=by
 refine q00 (c:=q4P) rfl rfl ?_;have he:=q9S b L hl hL;simp only [evA] at he;simp [q4P,-V,-y3,-y0,J,he];refine q06 L.length (fun k s=>(s.env 0).v=.sl b (L.map rtC)/\(s.env 5).v=.int .i64 k/\fwP cp k=true)
  (fun e s=>(e=.exit 0/\fwP cp L.length=true)\/(e=.ret/\(s.env 2).v=.bool false/\(s.env 3).v=.int .i64 0/\fwP cp L.length=false)) (fun k th s k' h ih hk=>?_) _ _ ?_ (fun e s h=>?_)
 ·obtain ⟨e0,e5,ha⟩:=h;refine q02 ?_;by_cases fa:k<L.length
  ·have ga:(k:Int)<L.length:=by omega
   have hw:=q0s (i:=k);have za:fwP cp (k + 1)=(fwP cp k&&allB (fun j=>cp k j) k):=rfl;rw [ha] at za;have hf:=q4l (f:=fun k=>allB (fun j=>cp k j) k) (n:=L.length) k fa;simp [q4Q,-V,-y3,-y0,J,e0,e5,ga];refine rfw_in (b:=b) hl hc fa _ (by simp [e0]) (by simp [e5]) (by simp) _ (fun s' h1 h2 h3=>?_) (fun s' h1 h2 h3=>?_)
   ·rw [h3] at za;simp [-V,-y3,-y0,J,h1,h2,hw];refine ih fa _ ⟨?_,?_,za⟩
    all_goals simp [h1]
   ·simp [-V,-y3,-y0,J];exact hk _ _ (.inr ⟨rfl,h1,h2,hf h3⟩)
  ·have ji:k=L.length:=by omega
   subst ji;simp [q4Q,-V,-y3,-y0,J,e0,e5];exact hk _ _ (.inl ⟨rfl,ha⟩)
 ·simp [fwP,allB]
 ·rcases h with ⟨rfl,h⟩ | ⟨rfl,h1,h2,h3⟩
  ·simp [-V,-y3,-y0,J,h]
  ·simp [-V,-y3,-y0,J,h1,h2,h3]
def rowM (cp:Nat->Nat->Bool) (i j:Nat):AV:=.sl (decide (j=0)) ((List.range j).map fun m=>[.bool (cp i m)])
def q9M (cp:Nat->Nat->Bool) (n i j:Nat):List AV:=(List.range n).map fun k=>if k<i then rowM cp k n else if k=i then rowM cp i j else .sl true []
structure MatI (b:Bool) (L:List Rt) (cp:Nat->Nat->Bool) (n0 i j:Nat) (s:MSt):Prop where
 e0:(s.env 0).v=.sl b (L.map rtC)
 e5:(s.env 5).v=.ref 19 n0 1 0 L.length L.length
 e20:(s.env 20).v=.sl b (L.map rtC)
 e21:(s.env 21).v=.int .i64 L.length
 e22:(s.env 22).v=.int .i64 i
 m:∃ r,s.mem 19 n0=some r/\r.map (·.v)=q9M cp L.length i j/\∀ c,r[i]?=some c->j=0\/c.a=.own 47 4
theorem els_bools (f:Nat->Bool) (n:Nat):q13 1 ((List.range n).map fun m=>[AV.bool (f m)])=true:=q1a _ _ _ fun _=>rfl
theorem rowM_succ (cp:Nat->Nat->Bool) (i j:Nat):rowM cp i (j + 1)=.sl false (((List.range j).map fun m=>[.bool (cp i m)])++[[.bool (cp i j)]]):=by
 simp [rowM,J]
theorem cols_set {cp:Nat->Nat->Bool} {n i j:Nat} {r:List Slot} (hr:r.map (·.v)=q9M cp n i j) (f:Slot->Slot) (hf:∀ c,(f c).v=c.v) (a:An) {X:AV} (hX:X=rowM cp i (j + 1)):((r.map f).set i ⟨X,a⟩).map (·.v)=q9M cp n i (j + 1):=by
 have h1:(r.map f).map (·.v)=q9M cp n i j:=by
  rw [y0,<- hr];exact yl fun c _=>hf c
 rw [List.map_set,h1,hX];unfold q9M;apply List.ext_getElem?;intro k;by_cases hk:k<n
 ·by_cases wC:i=k
  ·subst wC;simp [hk]
  ·have h2:¬ k=i:=fun e=>wC e.symm
   simp [hk,wC,h2,List.getElem?_set]
 ·have h3:n<=k:=by omega
  rw [yL (by simpa using h3),yL (by simpa using h3)]
theorem mat_in {rv:RV} {b:Bool} {L:List Rt} {cp:Nat->Nat->Bool} (hl:L.length<=8) (hc:CmpE L cp) {n0 i:Nat} {x:Rt} (hx:L[i]?=some x) {n7:Nat} (s:MSt) (h:MatI b L cp n0 i 0 s) (e6:(s.env 6).v=.int .i64 i) (e7:(s.env 7).v=.ptr 7 n7 0) (m7:s.mem 7 n7=some (q2Q x.1 x.2)) (zq:(s.env 27).v=.sl b (L.map rtC)) (gr:(s.env 28).v=.int .i64 L.length) (dy:(s.env 29).v=.int .i64 0) (kk:Ex->MSt->Option RV)
  (hk:∀ s',MatI b L cp n0 i L.length s'->kk (.exit 2) s'=some rv):evL allT q01 q29 s kk=some rv:=by
 refine q06 L.length (fun j s=>MatI b L cp n0 i j s/\(s.env 6).v=.int .i64 i/\(s.env 7).v=.ptr 7 n7 0/\s.mem 7 n7=some (q2Q x.1 x.2)/\(s.env 27).v=.sl b (L.map rtC)/\(s.env 28).v=.int .i64 L.length/\(s.env 29).v=.int .i64 j)
  (fun e s=>e=.exit 2/\MatI b L cp n0 i L.length s) (fun j hj s k' h ih hk=>?_) _ _ ⟨h,e6,e7,m7,zq,gr,dy⟩ (fun e s h=>by obtain ⟨rfl,h1⟩:=h; exact hk _ h1)
 obtain ⟨⟨e0,e5,e20,e21,e22,r,m,hr,ha⟩,e6,e7,m7,zq,gr,dy⟩:=h;refine q02 ?_;by_cases fa:j<L.length
 ·have ga:(j:Int)<L.length:=by omega
  have hw:=q0s (i:=j);have zf:i<L.length:=(yb.1 hx).1;have g1:(L.map rtC)[j]?=some (rtC L[j]):=by simp [fa]
  have zy:=(hc i j x L[j] hx (by simp [fa])).1;generalize L[j]=y at *
  generalize hn:L.length=n at *
  have rF:r.length=n:=by rw [<- yo (f:=(·.v)),hr]; simp [q9M]
  have tt:i<r.length:=by omega
  have xE:r[i].v=rowM cp i j:=by
   have h1:(r.map (·.v))[i]?=some (rowM cp i j):=by rw [hr]; simp [q9M,zf]
   rw [yc,y5 tt] at h1;simpa using h1
  have aH:=ha r[i] (by simp [tt]);simp only [rowM] at xE;simp only [evA,rtC,q3d] at g1 zy;simp only [q2Q] at m7;have q1:=els_bools (cp i) j;have ba:q0G 1 (j + 1)=true:=by rw [q0d]; omega
  by_cases bx:j=0
  ·subst bx;have iq:0<n:=fa;simp [q29,-V,-y3,-y0,J,e0,e5,e6,e7,m7,e20,e21,e22,zq,gr,dy,iq,g1,zy,hw,m,tt,zf,ba,xE,anN];refine ih fa _ ⟨⟨?_,?_,?_,?_,?_,⟨?r,?hm,?hv,?ha⟩⟩,?_,?_,?_,?_,?_,?_⟩
   case hm=>simp [m,tt]; rfl
   case hv =>
    rw [hn];exact cols_set (X:=.sl false [[.bool (cp i 0)]]) hr (Slot.strip 47) (fun c=>by cases c; rfl) _ ((rowM_succ cp i 0).symm)
   case ha =>
    intro c h;right;simp [tt] at h;rw [<- h]
   all_goals try (simp [e0,e5,e6,e7,m7,e20,e21,e22,zq,gr,dy,hn,q2Q]; done)
   all_goals (simp; rfl)
  ·have aH:=aH.resolve_left bx;have hd:decide (j=0)=false:=decide_eq_false bx;rw [hd] at xE;simp [q29,-V,-y3,-y0,J,e0,e5,e6,e7,m7,e20,e21,e22,zq,gr,dy,ga,g1,zy,hw,m,tt,zf,ba,q1,xE,aH,anN];refine ih fa _ ⟨⟨?_,?_,?_,?_,?_,⟨?r2,?nh,?mA,?kK⟩⟩,?_,?_,?_,?_,?_,?_⟩
   case nh=>simp [m,tt]; rfl
   case mA =>
    rw [hn];exact cols_set hr (Slot.strip 47 ∘ Slot.strip 47) (fun c=>by cases c; rfl) _ ((rowM_succ cp i j).symm)
   case kK =>
    intro c h;right;simp [tt] at h;rw [<- h]
   all_goals try (simp [e0,e5,e6,e7,m7,e20,e21,e22,zq,gr,dy,hn,q2Q]; done)
   all_goals (simp; rfl)
 ·have ew:j=L.length:=by omega
  subst ew;simp [q29,-V,-y3,-y0,J,gr,dy];exact hk _ _ ⟨rfl,e0,e5,e20,e21,e22,r,m,hr,ha⟩
theorem cols_next {cp:Nat->Nat->Bool} {n i:Nat}:q9M cp n i n=q9M cp n (i + 1) 0:=by
 unfold q9M;refine yl fun k _=>?_
 by_cases h1:k<i
 ·rw [if_pos h1,if_pos (by omega)]
 ·by_cases h2:k=i
  ·subst h2;rw [if_neg h1,if_pos rfl,if_pos (by omega)]
  ·rw [if_neg h1,if_neg h2,if_neg (by omega)];by_cases h3:k=i + 1
   ·rw [if_pos h3]; simp [rowM]
   ·rw [if_neg h3]
def matA (cp:Nat->Nat->Bool) (n:Nat):AV:=.sl false ((List.range n).map fun i=>[rowM cp i n])
theorem cols_all {cp:Nat->Nat->Bool} {n j:Nat}:q9M cp n n j=(List.range n).map fun i=>rowM cp i n:=by
 unfold q9M;refine yl fun k hk=>?_
 rw [if_pos (List.mem_range.1 hk)]
theorem cols_zero {cp:Nat->Nat->Bool} {n:Nat}:q9M cp n 0 0=yA n (.sl true []):=by
 unfold q9M;rw [yl (g:=fun _=>AV.sl true []) fun k _=>by
  by_cases h:k=0
  ·subst h; simp [rowM]
  ·simp [h]]
 rw [List.map_const',List.length_range]
theorem mat_els {cp:Nat->Nat->Bool} {n:Nat} {r:List Slot} (hr:r.map (·.v)=(List.range n).map fun i=>rowM cp i n):q2R r 1 0 n=some ((List.range n).map fun i=>[rowM cp i n]):=by
 have hl:r.length=n:=by rw [<- yo (f:=(·.v)),hr]; simp
 have hf:r.all (fun x=>x.v.free0)=true:=by
  have:(r.map (·.v)).all AV.free0=true:=by rw [hr]; simp [rowM,AV.free0]
  rw [List.all_map] at this;exact this
 unfold q2R;rw [if_pos ⟨by omega,hf⟩];congr 1;refine yl fun i hi=>?_
 have hi:=List.mem_range.1 hi;rw [List.map_take,List.map_drop,hr,show 0 + i * 1=i from by omega,y9 (by simpa using hi)];simp
theorem q9Z (b:Bool) {L:List Rt} (h0:0<L.length) (hl:L.length<=8) (hL:∀ x∈L,x.ok) {cp:Nat->Nat->Bool} (hc:CmpE L cp):evA 46 [.sl b (L.map rtC)] (.tup [matA cp L.length,.int .i64 0]):=by
 refine q00 (c:=q3W) rfl rfl ?_;have he:=hvalid_ev b L hl hL;simp only [evA] at he;have gH:L.length * 24<=140737488355328:=by omega
 have uy:L.length<=140737488355328:=by omega
 simp [q3W,-V,-y3,-y0,J,he,gH,uy];refine q06 L.length (fun i s=>MatI b L cp 4 i 0 s) (fun e s=>e=.exit 0/\MatI b L cp 4 L.length 0 s) (fun i hi s k h ih hk=>?_) _ _ ?_ (fun e s h=>?_)
 ·obtain ⟨e0,e5,e20,e21,e22,r,m,hr,ha⟩:=h;refine q02 ?_;by_cases fa:i<L.length
  ·have ga:(i:Int)<L.length:=by omega
   have hw:=q0s (i:=i);have g1:(L.map rtC)[i]?=some (rtC L[i]):=by simp [fa]
   have hx:L[i]?=some L[i]:=by simp [fa]
   generalize L[i]=x at *
   simp only [rtC,q3d] at g1;simp [q4a,-V,-y3,-y0,J,e0,e20,e21,e22,ga,g1];refine mat_in (b:=b) (n0:=4) (n7:=s.next + 1) hl hc hx _ ⟨?_,?_,?_,?_,?_,⟨r,?_,hr,fun c _=>.inl rfl⟩⟩ ?_ ?_ ?_ ?_ ?_ ?_ _ (fun s' h'=>?_)
   all_goals try (simp [e0,e5,e20,e21,e22,m,q2Q]; done)
   ·obtain ⟨e0,e5,e20,e21,e22,r,m,hr,ha⟩:=h';rw [cols_next] at hr;simp [-V,-y3,-y0,J,e22,hw];refine ih fa _ ⟨?_,?_,?_,?_,?_,⟨r,?_,hr,fun c _=>.inl rfl⟩⟩
    all_goals simp [e0,e5,e20,e21,m]
  ·have wd:i=L.length:=by omega
   subst wd;simp [q4a,-V,-y3,-y0,J,e21,e22];exact hk _ _ ⟨rfl,e0,e5,e20,e21,e22,r,m,hr,ha⟩
 ·refine ⟨?_,?_,?_,?_,?_,⟨_,rfl,?_,fun c _=>.inl rfl⟩⟩
  all_goals try (simp; done)
  simp [cols_zero]
 ·obtain ⟨rfl,e0,e5,e20,e21,e22,r,m,hr,ha⟩:=h;rw [cols_all] at hr;have sc:=mat_els hr;simp [-V,-y3,-y0,J,e5,m,sc,matA]
def rowsM (cp:Nat->Nat->Bool) (n i:Nat):AV:=.sl (decide (i=0)) ((List.range i).map fun k=>[rowM cp k n])
theorem els_rows (cp:Nat->Nat->Bool) (n i:Nat):q13 1 ((List.range i).map fun k=>[rowM cp k n])=true:=q1a _ _ _ fun _=>rfl
theorem rmat_in {rv:RV} {b:Bool} {L:List Rt} {cp:Nat->Nat->Bool} (hl:L.length<=8) (hc:CmpE L cp) {i:Nat} (zf:i<L.length) (s:MSt) (e0:(s.env 0).v=.sl b (L.map rtC)) (e5:(s.env 5).v=rowsM cp L.length i) (a5:i=0\/(s.env 5).a=.own 36 71) (e6:(s.env 6).v=.int .i64 i) (e7:(s.env 7).v=.sl true []) (e8:(s.env 8).v=.int .i64 0) (kk:Ex->MSt->Option RV)
  (hk:∀ s',(s'.env 0).v=.sl b (L.map rtC)->(s'.env 5).v=rowsM cp L.length i->(i=0\/(s'.env 5).a=.own 36 71)->(s'.env 6).v=.int .i64 i->(s'.env 7).v=rowM cp i L.length->kk (.exit 2) s'=some rv):evL allT q01 q2O s kk=some rv:=by
 refine q06 L.length (fun j s=>(s.env 0).v=.sl b (L.map rtC)/\(s.env 5).v=rowsM cp L.length i/\(i=0\/(s.env 5).a=.own 36 71)/\(s.env 6).v=.int .i64 i/\(s.env 7).v=rowM cp i j/\(j=0\/(s.env 7).a=.own 32 4)/\(s.env 8).v=.int .i64 j)
  (fun e s=>e=.exit 2/\(s.env 0).v=.sl b (L.map rtC)/\(s.env 5).v=rowsM cp L.length i/\(i=0\/(s.env 5).a=.own 36 71)/\(s.env 6).v=.int .i64 i/\(s.env 7).v=rowM cp i L.length) (fun j hj s k' h ih hk=>?_) _ _ ⟨e0,e5,a5,e6,by simp [e7,rowM],.inl rfl,e8⟩ (fun e s h=>by obtain ⟨rfl,h1,h2,h3,h4,h5⟩:=h; exact hk _ h1 h2 h3 h4 h5)
 obtain ⟨e0,e5,a5,e6,e7,a7,e8⟩:=h;refine q02 ?_;by_cases fa:j<L.length
 ·have ga:(j:Int)<L.length:=by omega
  have hw:=q0s (i:=j);have q:=q9R b hc zf fa;have q1:=els_bools (cp i) j;have ba:q0G 1 (j + 1)=true:=by rw [q0d]; omega
  have hs:=rowM_succ cp i j;simp only [evA] at q;rw [hs] at ih;simp only [rowM] at e7;generalize cp i j=z at *
  by_cases bx:j=0
  ·subst bx;rw [show ((0:Nat):Int)=0 from rfl] at q;simp [q2O,-V,-y3,-y0,J,e0,e6,e7,e8,fa,q,ba,anN];refine ih fa _ ⟨?_,?_,?_,?_,?_,.inr ?_,?_⟩
   all_goals first | (simp [e0,e5,e6]; done) | (rcases a5 with h | h <;> simp [h]; done) | (simp; rfl)
  ·have a7:=a7.resolve_left bx;have hd:decide (j=0)=false:=decide_eq_false bx;rw [hd] at e7;simp [q2O,-V,-y3,-y0,J,e0,e6,e7,a7,e8,ga,q,ba,anN,q1,hw];refine ih fa _ ⟨?_,?_,?_,?_,?_,.inr ?_,?_⟩
   all_goals first | (simp [e0,e5,e6]; done) | (rcases a5 with h | h <;> simp [h]; done)
 ·have ew:j=L.length:=by omega
  subst ew;simp [q2O,-V,-y3,-y0,J,e0,e8];exact hk _ _ ⟨rfl,e0,e5,a5,e6,e7⟩
theorem rmatrix_ev (b:Bool) {L:List Rt} (h0:0<L.length) (hl:L.length<=8) (hL:∀ x∈L,x.ok) {cp:Nat->Nat->Bool} (hc:CmpE L cp):evA 47 [.sl b (L.map rtC)] (.tup [matA cp L.length,.int .i64 0]):=by
 refine q00 (c:=q5o) rfl rfl ?_;have he:=q9S b L hl hL;simp only [evA] at he;simp [q5o,-V,-y3,-y0,J,he];refine q06 L.length (fun i s=>(s.env 0).v=.sl b (L.map rtC)/\(s.env 5).v=rowsM cp L.length i/\(i=0\/(s.env 5).a=.own 36 71)/\(s.env 6).v=.int .i64 i) (fun e s=>e=.exit 0/\(s.env 5).v=rowsM cp L.length L.length) (fun i hi s k h ih hk=>?_) _ _ ?_ (fun e s h=>?_)
 ·obtain ⟨e0,e5,a5,e6⟩:=h;refine q02 ?_;by_cases fa:i<L.length
  ·have ga:(i:Int)<L.length:=by omega
   have hw:=q0s (i:=i);simp [q59,-V,-y3,-y0,J,e0,e6,ga];refine rmat_in (b:=b) hl hc fa _ (by simp [e0]) (by simp [e5]) (by simpa using a5) (by simp [e6]) (by simp) (by simp) _ (fun s' e0 e5 a5 e6 e7=>?_);have q1:=els_rows cp L.length i;have ba:q0G 24 (i + 1)=true:=by rw [q0d]; omega
   have hs:rowsM cp L.length (i + 1)=.sl false (((List.range i).map fun k=>[rowM cp k L.length])++[[rowM cp i L.length]]):=by simp [rowsM,J]
   have su:(rowM cp i L.length).free0=true:=by simp [rowM,AV.free0]
   rw [hs] at ih;simp only [rowsM] at e5;obtain ⟨z,els,oe⟩:∃ z els,rowM cp i L.length=.sl z els:=⟨_,_,rfl⟩;rw [oe] at ih e7 su;by_cases bh:i=0
   ·subst bh;simp [-V,-y3,-y0,J,e0,e5,e6,e7,ba,anN,hw];refine ih fa _ ⟨?_,?_,.inr ?_,?_⟩
    all_goals first | (simp [e0]; done) | (simp; rfl)
   ·have a5:=a5.resolve_left bh;have hd:decide (i=0)=false:=decide_eq_false bh;rw [hd] at e5;simp [-V,-y3,-y0,J,e0,e5,a5,e6,e7,ba,anN,q1,hw];refine ih fa _ ⟨?_,?_,.inr ?_,?_⟩
    all_goals simp [e0]
  ·have wd:i=L.length:=by omega
   subst wd;simp [q59,-V,-y3,-y0,J,e0,e6];exact hk _ _ ⟨rfl,e5⟩
 ·simp [rowsM]
 ·obtain ⟨rfl,e5⟩:=h;have hd:decide (L.length=0)=false:=decide_eq_false (by omega);simp only [rowsM,hd] at e5;simp [-V,-y3,-y0,J,e5,matA,rowM]
theorem mat_get {cp:Nat->Nat->Bool} {n i:Nat} (hi:i<n):((List.range n).map fun i=>[rowM cp i n])[i]?=some [rowM cp i n]:=by simp [hi]
theorem row_get {cp:Nat->Nat->Bool} {n i j:Nat} (hj:j<n):((List.range n).map fun m=>[AV.bool (cp i m)])[j]?=some [.bool (cp i j)]:=by simp [hj]
theorem pbw_in {rv:RV} {n:Nat} {cp:Nat->Nat->Bool} (hl:n<=8) {k:Nat} (kh:k<n) (s:MSt) (e4:(s.env 4).v=matA cp n) (e5:(s.env 5).v=.int .i64 0) (e6:(s.env 6).v=.int .i64 k) (kf:(s.env 14).v=.int .i64 n) (fc:(s.env 15).v=.int .i64 k) (lf:(s.env 18).v=.int .i64 k) (pk:(s.env 19).v=.int .i64 0) (kk:Ex->MSt->Option RV)
  (hk:∀ s',(s'.env 4).v=matA cp n->(s'.env 5).v=.int .i64 0->(s'.env 14).v=.int .i64 n->(s'.env 15).v=.int .i64 k->allB (fun j=>cp j k) k=true->kk (.exit 2) s'=some rv)
  (hr:∀ s',(s'.env 2).v=.bool false->(s'.env 3).v=.int .i64 0->allB (fun j=>cp j k) k=false->kk .ret s'=some rv):evL allT q01 q1J s kk=some rv:=by
 refine q06 k (fun j s=>(s.env 4).v=matA cp n/\(s.env 5).v=.int .i64 0/\(s.env 6).v=.int .i64 k/\(s.env 14).v=.int .i64 n/\(s.env 15).v=.int .i64 k/\(s.env 18).v=.int .i64 k/\(s.env 19).v=.int .i64 j/\allB (fun j=>cp j k) j=true)
  (fun e s=>(e=.exit 2/\(s.env 4).v=matA cp n/\(s.env 5).v=.int .i64 0/\(s.env 14).v=.int .i64 n/\(s.env 15).v=.int .i64 k/\allB (fun j=>cp j k) k=true)\/(e=.ret/\(s.env 2).v=.bool false/\(s.env 3).v=.int .i64 0/\allB (fun j=>cp j k) k=false)) (fun j hj s k' h ih hk=>?_) _ _ ⟨e4,e5,e6,kf,fc,lf,pk,rfl⟩ (fun e s h=>by
   rcases h with ⟨rfl,h1,h2,h3,h4,h5⟩ | ⟨rfl,h1,h2,h3⟩
   ·exact hk _ h1 h2 h3 h4 h5
   ·exact hr _ h1 h2 h3)
 obtain ⟨e4,e5,e6,kf,fc,lf,pk,ha⟩:=h;refine q02 ?_;by_cases fa:j<k
 ·have ga:(j:Int)<k:=by omega
  have hw:=q0s (i:=j);have g1:=mat_get (cp:=cp) (n:=n) (i:=j) (by omega);have g2:=row_get (cp:=cp) (n:=n) (i:=j) (j:=k) (by omega);have za:allB (fun j=>cp j k) (j + 1)=(allB (fun j=>cp j k) j&&cp j k):=rfl;rw [ha] at za;have hf:=q4l (f:=fun j=>cp j k) (n:=k) j fa;obtain ⟨z,hz⟩:∃ z,z=decide (n=0):=⟨_,rfl⟩;have ka:rowM cp j n=.sl z ((List.range n).map fun m=>[.bool (cp j m)]):=by rw [hz]; rfl
  rw [ka] at g1;have rk:=e4;simp only [matA] at rk;generalize ((List.range n).map fun m=>[AV.bool (cp j m)])=ro at *
  generalize hM:((List.range n).map fun i=>[rowM cp i n])=ma at *
  generalize wq:cp j k=w at *
  cases w
  ·simp [q1J,-V,-y3,-y0,J,rk,e5,e6,lf,pk,ga,hw,g1,g2];exact hk _ _ (.inr ⟨rfl,by simp,by simp,hf rfl⟩)
  ·simp [q1J,-V,-y3,-y0,J,rk,e5,e6,lf,pk,ga,hw,g1,g2];refine ih fa _ ⟨?_,?_,?_,?_,?_,?_,?_,za⟩
   all_goals simp [e4,e5,e6,kf,fc,lf]
 ·have gw:j=k:=by omega
  subst gw;simp [q1J,-V,-y3,-y0,J,lf,pk];exact hk _ _ (.inl ⟨rfl,e4,e5,kf,fc,ha⟩)
theorem pbw_ev (b:Bool) {L:List Rt} (h0:0<L.length) (hl:L.length<=8) (hL:∀ x∈L,x.ok) {cp:Nat->Nat->Bool} (hc:CmpE L cp):evA 50 [.sl b (L.map rtC)] (.tup [.bool (bwP cp L.length),.int .i64 0]):=by
 refine q00 (c:=q3g) rfl rfl ?_;have he:=q9Z b h0 hl hL hc;simp only [evA] at he;have bm:∀ l,matA cp L.length=.sl false l->l.length=L.length:=fun l h=>by injection h with _ h; rw [<- h]; simp
 obtain ⟨ma,sj⟩:∃ ma,matA cp L.length=.sl false ma:=⟨_,rfl⟩;have ja:=bm ma sj;rw [sj] at he;simp [q3g,-V,-y3,-y0,J,he,ja];rw [<- sj];generalize L.length=n at *
 refine q06 n (fun k s=>(s.env 4).v=matA cp n/\(s.env 5).v=.int .i64 0/\(s.env 14).v=.int .i64 n/\(s.env 15).v=.int .i64 k/\bwP cp k=true)
  (fun e s=>(e=.exit 0/\(s.env 5).v=.int .i64 0/\bwP cp n=true)\/(e=.ret/\(s.env 2).v=.bool false/\(s.env 3).v=.int .i64 0/\bwP cp n=false)) (fun k th s k' h ih hk=>?_) _ _ ?_ (fun e s h=>?_)
 ·obtain ⟨e4,e5,kf,fc,ha⟩:=h;refine q02 ?_;by_cases fa:k<n
  ·have ga:(k:Int)<n:=by omega
   have hw:=q0s (i:=k);have za:bwP cp (k + 1)=(bwP cp k&&allB (fun j=>cp j k) k):=rfl;rw [ha] at za;have hf:=q4l (f:=fun k=>allB (fun j=>cp j k) k) (n:=n) k fa;simp [q3r,-V,-y3,-y0,J,kf,fc,ga];refine pbw_in (n:=n) (cp:=cp) hl fa _ (by simp [e4]) (by simp [e5]) (by simp) (by simp [kf]) (by simp [fc]) (by simp) (by simp) _ (fun s' h1 h2 h4 h5 h3=>?_) (fun s' h1 h2 h3=>?_)
   ·rw [h3] at za;simp [-V,-y3,-y0,J,h5,hw];refine ih fa _ ⟨?_,?_,?_,?_,za⟩
    all_goals simp [h1,h2,h4]
   ·simp [-V,-y3,-y0,J];exact hk _ _ (.inr ⟨rfl,h1,h2,hf h3⟩)
  ·have ji:k=n:=by omega
   subst ji;simp [q3r,-V,-y3,-y0,J,kf,fc];exact hk _ _ (.inl ⟨rfl,e5,ha⟩)
 ·simp [bwP,allB,sj]
 ·rcases h with ⟨rfl,h,h'⟩ | ⟨rfl,h1,h2,h3⟩
  ·simp [-V,-y3,-y0,J,h,h']
  ·simp [-V,-y3,-y0,J,h1,h2,h3]
theorem pfw_in {rv:RV} {n:Nat} {cp:Nat->Nat->Bool} (hl:n<=8) {k:Nat} (kh:k<n) (s:MSt) (e4:(s.env 4).v=matA cp n) (e5:(s.env 5).v=.int .i64 0) (e6:(s.env 6).v=.int .i64 k) (kf:(s.env 14).v=.int .i64 n) (fc:(s.env 15).v=.int .i64 k) (lf:(s.env 18).v=.int .i64 k) (pk:(s.env 19).v=.int .i64 0) (kk:Ex->MSt->Option RV)
  (hk:∀ s',(s'.env 4).v=matA cp n->(s'.env 5).v=.int .i64 0->(s'.env 14).v=.int .i64 n->(s'.env 15).v=.int .i64 k->allB (fun j=>cp k j) k=true->kk (.exit 2) s'=some rv)
  (hr:∀ s',(s'.env 2).v=.bool false->(s'.env 3).v=.int .i64 0->allB (fun j=>cp k j) k=false->kk .ret s'=some rv):evL allT q01 q21 s kk=some rv:=by
 refine q06 k (fun j s=>(s.env 4).v=matA cp n/\(s.env 5).v=.int .i64 0/\(s.env 6).v=.int .i64 k/\(s.env 14).v=.int .i64 n/\(s.env 15).v=.int .i64 k/\(s.env 18).v=.int .i64 k/\(s.env 19).v=.int .i64 j/\allB (fun j=>cp k j) j=true)
  (fun e s=>(e=.exit 2/\(s.env 4).v=matA cp n/\(s.env 5).v=.int .i64 0/\(s.env 14).v=.int .i64 n/\(s.env 15).v=.int .i64 k/\allB (fun j=>cp k j) k=true)\/(e=.ret/\(s.env 2).v=.bool false/\(s.env 3).v=.int .i64 0/\allB (fun j=>cp k j) k=false)) (fun j hj s k' h ih hk=>?_) _ _ ⟨e4,e5,e6,kf,fc,lf,pk,rfl⟩ (fun e s h=>by
   rcases h with ⟨rfl,h1,h2,h3,h4,h5⟩ | ⟨rfl,h1,h2,h3⟩
   ·exact hk _ h1 h2 h3 h4 h5
   ·exact hr _ h1 h2 h3)
 obtain ⟨e4,e5,e6,kf,fc,lf,pk,ha⟩:=h;refine q02 ?_;by_cases fa:j<k
 ·have ga:(j:Int)<k:=by omega
  have hw:=q0s (i:=j);have g1:=mat_get (cp:=cp) (n:=n) (i:=k) (by omega);have g2:=row_get (cp:=cp) (n:=n) (i:=k) (j:=j) (by omega);have za:allB (fun j=>cp k j) (j + 1)=(allB (fun j=>cp k j) j&&cp k j):=rfl;rw [ha] at za;have hf:=q4l (f:=fun j=>cp k j) (n:=k) j fa;obtain ⟨z,hz⟩:∃ z,z=decide (n=0):=⟨_,rfl⟩;have ka:rowM cp k n=.sl z ((List.range n).map fun m=>[.bool (cp k m)]):=by rw [hz]; rfl
  rw [ka] at g1;have rk:=e4;simp only [matA] at rk;generalize ((List.range n).map fun m=>[AV.bool (cp k m)])=ro at *
  generalize hM:((List.range n).map fun i=>[rowM cp i n])=ma at *
  generalize wq:cp k j=w at *
  cases w
  ·simp [q21,-V,-y3,-y0,J,rk,e5,e6,lf,pk,ga,hw,g1,g2];exact hk _ _ (.inr ⟨rfl,by simp,by simp,hf rfl⟩)
  ·simp [q21,-V,-y3,-y0,J,rk,e5,e6,lf,pk,ga,hw,g1,g2];refine ih fa _ ⟨?_,?_,?_,?_,?_,?_,?_,za⟩
   all_goals simp [e4,e5,e6,kf,fc,lf]
 ·have gw:j=k:=by omega
  subst gw;simp [q21,-V,-y3,-y0,J,lf,pk];exact hk _ _ (.inl ⟨rfl,e4,e5,kf,fc,ha⟩)
theorem pfw_ev (b:Bool) {L:List Rt} (h0:0<L.length) (hl:L.length<=8) (hL:∀ x∈L,x.ok) {cp:Nat->Nat->Bool} (hc:CmpE L cp):evA 52 [.sl b (L.map rtC)] (.tup [.bool (fwP cp L.length),.int .i64 0]):=by
 refine q00 (c:=q3G) rfl rfl ?_;have he:=q9Z b h0 hl hL hc;simp only [evA] at he;have bm:∀ l,matA cp L.length=.sl false l->l.length=L.length:=fun l h=>by injection h with _ h; rw [<- h]; simp
 obtain ⟨ma,sj⟩:∃ ma,matA cp L.length=.sl false ma:=⟨_,rfl⟩;have ja:=bm ma sj;rw [sj] at he;simp [q3G,-V,-y3,-y0,J,he,ja];rw [<- sj];generalize L.length=n at *
 refine q06 n (fun k s=>(s.env 4).v=matA cp n/\(s.env 5).v=.int .i64 0/\(s.env 14).v=.int .i64 n/\(s.env 15).v=.int .i64 k/\fwP cp k=true)
  (fun e s=>(e=.exit 0/\(s.env 5).v=.int .i64 0/\fwP cp n=true)\/(e=.ret/\(s.env 2).v=.bool false/\(s.env 3).v=.int .i64 0/\fwP cp n=false)) (fun k th s k' h ih hk=>?_) _ _ ?_ (fun e s h=>?_)
 ·obtain ⟨e4,e5,kf,fc,ha⟩:=h;refine q02 ?_;by_cases fa:k<n
  ·have ga:(k:Int)<n:=by omega
   have hw:=q0s (i:=k);have za:fwP cp (k + 1)=(fwP cp k&&allB (fun j=>cp k j) k):=rfl;rw [ha] at za;have hf:=q4l (f:=fun k=>allB (fun j=>cp k j) k) (n:=n) k fa;simp [q3N,-V,-y3,-y0,J,kf,fc,ga];refine pfw_in (n:=n) (cp:=cp) hl fa _ (by simp [e4]) (by simp [e5]) (by simp) (by simp [kf]) (by simp [fc]) (by simp) (by simp) _ (fun s' h1 h2 h4 h5 h3=>?_) (fun s' h1 h2 h3=>?_)
   ·rw [h3] at za;simp [-V,-y3,-y0,J,h5,hw];refine ih fa _ ⟨?_,?_,?_,?_,za⟩
    all_goals simp [h1,h2,h4]
   ·simp [-V,-y3,-y0,J];exact hk _ _ (.inr ⟨rfl,h1,h2,hf h3⟩)
  ·have ji:k=n:=by omega
   subst ji;simp [q3N,-V,-y3,-y0,J,kf,fc];exact hk _ _ (.inl ⟨rfl,e5,ha⟩)
 ·simp [fwP,allB,sj]
 ·rcases h with ⟨rfl,h,h'⟩ | ⟨rfl,h1,h2,h3⟩
  ·simp [-V,-y3,-y0,J,h,h']
  ·simp [-V,-y3,-y0,J,h1,h2,h3]
def q6h (cp:Nat->Nat->Bool) (n k:Nat):Nat->Nat->List Pr
 | 0,_=>[]
 | m + 1,j=>if j<n/\cp (j - 1) j=true then (if cp k j=true then [] else [((k:Int),(j:Int))])++q6h cp n k m (j + 1) else []
theorem gapIn_step (cp:Nat->Nat->Bool) {n j:Nat} (k:Nat) (h:j<n):q6h cp n k (n - j) j=if j<n/\cp (j - 1) j=true then (if cp k j=true then [] else [((k:Int),(j:Int))])++q6h cp n k (n - (j + 1)) (j + 1) else []:=by
 have hm:n - j=(n - (j + 1)) + 1:=by omega
 rw [hm,q6h]
def q6F (cp:Nat->Nat->Bool) (n:Nat):Nat->List Pr
 | 0=>[]
 | k + 1=>q6F cp n k++q6h cp n k (n - (k + 1)) (k + 1)
def gapA (l:List Pr):AV:=.sl l.isEmpty (l.map prC)
theorem gapIn_len (cp:Nat->Nat->Bool) (n k:Nat):∀ m j,(q6h cp n k m j).length<=m
 | 0,_=>by simp [q6h]
 | m + 1,j=>by
  have:=gapIn_len cp n k m (j + 1);unfold q6h;split
  ·rw [yp];split
   ·simp; omega
   ·simp; omega
  ·simp
theorem q9Q (cp:Nat->Nat->Bool) (n:Nat):∀ k,(q6F cp n k).length<=k * n
 | 0=>by simp [q6F]
 | k + 1=>by
  have h1:=q9Q cp n k;have h2:=gapIn_len cp n k (n - (k + 1)) (k + 1);unfold q6F;rw [yp,yt];omega
theorem pgap_in {rv:RV} {n:Nat} {cp:Nat->Nat->Bool} (hl:n<=8) {k:Nat} (kh:k<n) (s:MSt) (e4:(s.env 4).v=matA cp n) (e5:(s.env 5).v=.int .i64 0) (fc:(s.env 15).v=.int .i64 n) (oc:(s.env 16).v=.int .i64 k) (eK:(s.env 7).v=.int .i64 k) (eJ:(s.env 8).v=.int .i64 (k + 1:Nat)) (acc0:List Pr) (h0:acc0.length<=64) (eA:(s.env 6).v=gapA acc0) (aA:acc0=[]\/(s.env 6).a=.own 50 63) (kk:Ex->MSt->Option RV)
  (hk:∀ s',(s'.env 4).v=matA cp n/\(s'.env 5).v=.int .i64 0/\(s'.env 15).v=.int .i64 n/\(s'.env 16).v=.int .i64 k/\(s'.env 7).v=.int .i64 k/\(s'.env 6).v=gapA (acc0++q6h cp n k (n - (k + 1)) (k + 1))/\(acc0++q6h cp n k (n - (k + 1)) (k + 1)=[]\/(s'.env 6).a=.own 50 63)->kk (.exit 2) s'=some rv):evL allT q01 q1m s kk=some rv:=by
 refine q06 (n - (k + 1)) (fun i s=>(s.env 4).v=matA cp n/\(s.env 5).v=.int .i64 0/\(s.env 15).v=.int .i64 n/\(s.env 16).v=.int .i64 k/\(s.env 7).v=.int .i64 k/\(s.env 8).v=.int .i64 (k + 1 + i:Nat)/\∃ acc:List Pr,(s.env 6).v=gapA acc/\(acc=[]\/(s.env 6).a=.own 50 63)/\acc.length<=64 + i/\acc0++q6h cp n k (n - (k + 1)) (k + 1)=acc++q6h cp n k (n - (k + 1 + i)) (k + 1 + i))
  (fun e s=>e=.exit 2/\(s.env 4).v=matA cp n/\(s.env 5).v=.int .i64 0/\(s.env 15).v=.int .i64 n/\(s.env 16).v=.int .i64 k/\(s.env 7).v=.int .i64 k/\(s.env 6).v=gapA (acc0++q6h cp n k (n - (k + 1)) (k + 1))/\(acc0++q6h cp n k (n - (k + 1)) (k + 1)=[]\/(s.env 6).a=.own 50 63)) (fun i hi s k' h ih hk=>?_) _ _ ⟨e4,e5,fc,oc,eK,eJ,acc0,eA,aA,by omega,rfl⟩ (fun e s h=>by obtain ⟨rfl,h⟩:=h; exact hk _ h)
 obtain ⟨e4,e5,fc,oc,eK,eJ,acc,eA,aA,be,io⟩:=h;rw [io] at hk;refine q02 ?_;obtain ⟨j,hj⟩:∃ j,j=k + 1 + i:=⟨_,rfl⟩;have fI:k + 1 + (i + 1)=j + 1:=by omega
 rw [fI,io] at ih;rw [<- hj] at eJ hk ih;have ew:j<=n:=by omega
 clear io;by_cases fa:j<n
 ·have ga:(j:Int)<n:=by omega
  have mj:i<n - (k + 1):=by omega
  have di:IntKind.i64.wrap ((j:Int) - 1)=((j - 1:Nat):Int):=by rw [IntWalk.i64_in _ (by omega)]; omega
  have hw:=q0s (i:=j);have hm:n - j=(n - (j + 1)) + 1:=by omega
  have ba:q0G 16 (acc.length + 1)=true:=by rw [q0d]; omega
  have q1:=q6C acc;have g1:=mat_get (cp:=cp) (n:=n) (i:=j - 1) (by omega);have g2:=row_get (cp:=cp) (n:=n) (i:=j - 1) (j:=j) (by omega);have g3:=mat_get (cp:=cp) (n:=n) (i:=k) (by omega);have g4:=row_get (cp:=cp) (n:=n) (i:=k) (j:=j) (by omega);simp only [rowM] at g1 g3;have zb:((List.range n).map fun i=>[rowM cp i n]).length=n:=by simp
  have rk:=e4;simp only [matA,rowM] at rk zb;generalize ((List.range n).map fun m=>[AV.bool (cp (j - 1) m)])=ro1 at *
  generalize ((List.range n).map fun m=>[AV.bool (cp k m)])=ro2 at *
  generalize decide (n=0)=z0 at *
  generalize ((List.range n).map fun i=>[AV.sl z0 ((List.range n).map fun m=>[AV.bool (cp i m)])])=ma at *
  rw [gapIn_step cp k fa] at hk ih;simp only [gapA] at eA;generalize zp:cp (j - 1) j=c1 at *
  generalize xA:cp k j=c2 at *
  cases c1
  ·simp only [fa,true_and,yn,if_false,yO] at hk ih;simp [q1m,-V,-y3,-y0,J,rk,zb,e5,eK,eJ,eA,ga,di,hw,g1,g2,g3,g4,ba,q1];refine hk _ _ ⟨rfl,?_,?_,?_,?_,?_,?_,?_⟩
   all_goals first | omega | (simp [e4,e5,fc,oc,eK,eA,gapA]; done) | (rcases aA with h | h <;> simp [h]; done)
  ·cases c2
   ·simp only [fa,true_and,if_true,yn,if_false,List.singleton_append] at hk ih;have px:gapA (acc++[((k:Int),(j:Int))])=.sl false (acc.map prC++[[.int .i64 k,.int .i64 j]]):=by simp [gapA,prC]
    rcases aA with rfl | aA
    ·have ba:q0G 16 1=true:=by rw [q0d]; omega
     simp [q1m,-V,-y3,-y0,J,anN,rk,zb,e5,eK,eJ,eA,ga,di,hw,g1,g2,g3,g4,ba,q1];refine ih mj _ ⟨?_,?_,?_,?_,?_,?_,[((k:Int),(j:Int))],?_,.inr ?_,?_,?_⟩
     all_goals first | omega | (simp [e4,e5,fc,oc,eK,gapA,prC]; done) | (simp; omega) | (simp; rfl)
    ·cases br:acc.isEmpty
     ·rw [br] at eA;simp [q1m,-V,-y3,-y0,J,anN,aA,rk,zb,e5,eK,eJ,eA,ga,di,hw,g1,g2,g3,g4,ba,q1];refine ih mj _ ⟨?_,?_,?_,?_,?_,?_,acc++[((k:Int),(j:Int))],?_,.inr ?_,?_,?_⟩
      all_goals first | omega | (simp [e4,e5,fc,oc,eK,gapA,prC]; done) | (simp; omega)
     ·rw [br] at eA;simp [q1m,-V,-y3,-y0,J,anN,aA,rk,zb,e5,eK,eJ,eA,ga,di,hw,g1,g2,g3,g4,ba,q1];refine ih mj _ ⟨?_,?_,?_,?_,?_,?_,acc++[((k:Int),(j:Int))],?_,.inr ?_,?_,?_⟩
      all_goals first | omega | (simp [e4,e5,fc,oc,eK,gapA,prC]; done) | (simp; omega)
   ·simp only [fa,true_and,if_true,List.nil_append] at hk ih;simp [q1m,-V,-y3,-y0,J,rk,zb,e5,eK,eJ,eA,ga,di,hw,g1,g2,g3,g4,ba,q1];refine ih mj _ ⟨?_,?_,?_,?_,?_,?_,acc,?_,?_,?_,?_⟩
    all_goals first | omega | (simp [e4,e5,fc,oc,eK,eA,gapA]; done) | (rcases aA with h | h <;> simp [h]; done) | (simp; omega) | rfl
 ·have dI:j=n:=by omega
  have hz:q6h cp n k (n - j) j=[]:=by rw [show n - j=0 from by omega]; rfl
  rw [hz,yO] at hk;have ga:¬ (j:Int)<n:=by omega
  have zb:((List.range n).map fun i=>[rowM cp i n]).length=n:=by simp
  have rk:=e4;simp only [matA] at rk;generalize ((List.range n).map fun i=>[rowM cp i n])=ma at *
  simp [q1m,-V,-y3,-y0,J,rk,zb,eJ,ga];refine hk _ _ ⟨rfl,?_,?_,?_,?_,?_,?_,?_⟩
  all_goals first | omega | (simp [e4,e5,fc,oc,eK,eA]; done) | (rcases aA with h | h <;> simp [h]; done)
theorem rgap_in {rv:RV} {b:Bool} {L:List Rt} {cp:Nat->Nat->Bool} {n:Nat} (hn:L.length=n) (hl:n<=8) (hc:CmpE L cp) {k:Nat} (kh:k<n) (s:MSt) (e0:(s.env 0).v=.sl b (L.map rtC)) (eK:(s.env 6).v=.int .i64 k) (eJ:(s.env 7).v=.int .i64 (k + 1:Nat)) (acc0:List Pr) (h0:acc0.length<=64) (eA:(s.env 5).v=gapA acc0) (aA:acc0=[]\/(s.env 5).a=.own 44 63) (kk:Ex->MSt->Option RV)
  (hk:∀ s',(s'.env 0).v=.sl b (L.map rtC)/\(s'.env 6).v=.int .i64 k/\(s'.env 5).v=gapA (acc0++q6h cp n k (n - (k + 1)) (k + 1))/\(acc0++q6h cp n k (n - (k + 1)) (k + 1)=[]\/(s'.env 5).a=.own 44 63)->kk (.exit 2) s'=some rv):evL allT q01 q1L s kk=some rv:=by
 refine q06 (n - (k + 1)) (fun i s=>(s.env 0).v=.sl b (L.map rtC)/\(s.env 6).v=.int .i64 k/\(s.env 7).v=.int .i64 (k + 1 + i:Nat)/\∃ acc:List Pr,(s.env 5).v=gapA acc/\(acc=[]\/(s.env 5).a=.own 44 63)/\acc.length<=64 + i/\acc0++q6h cp n k (n - (k + 1)) (k + 1)=acc++q6h cp n k (n - (k + 1 + i)) (k + 1 + i))
  (fun e s=>e=.exit 2/\(s.env 0).v=.sl b (L.map rtC)/\(s.env 6).v=.int .i64 k/\(s.env 5).v=gapA (acc0++q6h cp n k (n - (k + 1)) (k + 1))/\(acc0++q6h cp n k (n - (k + 1)) (k + 1)=[]\/(s.env 5).a=.own 44 63)) (fun i hi s k' h ih hk=>?_) _ _ ⟨e0,eK,eJ,acc0,eA,aA,by omega,rfl⟩ (fun e s h=>by obtain ⟨rfl,h⟩:=h; exact hk _ h)
 obtain ⟨e0,eK,eJ,acc,eA,aA,be,io⟩:=h;rw [io] at hk;refine q02 ?_;obtain ⟨j,hj⟩:∃ j,j=k + 1 + i:=⟨_,rfl⟩;have fI:k + 1 + (i + 1)=j + 1:=by omega
 rw [fI,io] at ih;rw [<- hj] at eJ hk ih;have ew:j<=n:=by omega
 clear io;by_cases fa:j<n
 ·have ga:(j:Int)<n:=by omega
  have mj:i<n - (k + 1):=by omega
  have di:IntKind.i64.wrap ((j:Int) - 1)=((j - 1:Nat):Int):=by rw [IntWalk.i64_in _ (by omega)]; omega
  have hw:=q0s (i:=j);have hm:n - j=(n - (j + 1)) + 1:=by omega
  have ba:q0G 16 (acc.length + 1)=true:=by rw [q0d]; omega
  have q1:=q6C acc;have g1:=q9R b hc (i:=j - 1) (j:=j) (by omega) (by omega);have g3:=q9R b hc (i:=k) (j:=j) (by omega) (by omega);simp only [evA] at g1 g3;rw [gapIn_step cp k fa] at hk ih;simp only [gapA] at eA;generalize zp:cp (j - 1) j=c1 at *
  generalize xA:cp k j=c2 at *
  cases c1
  ·simp only [fa,true_and,yn,if_false,yO] at hk ih;simp [q1L,-V,-y3,-y0,J,e0,hn,eK,eJ,eA,ga,di,hw,g1,g3,ba,q1];refine hk _ _ ⟨rfl,?_,?_,?_,?_⟩
   all_goals first | omega | (simp [e0,eK,eA,gapA]; done) | (rcases aA with h | h <;> simp [h]; done)
  ·cases c2
   ·simp only [fa,true_and,if_true,yn,if_false,List.singleton_append] at hk ih;have px:gapA (acc++[((k:Int),(j:Int))])=.sl false (acc.map prC++[[.int .i64 k,.int .i64 j]]):=by simp [gapA,prC]
    rcases aA with rfl | aA
    ·have ba:q0G 16 1=true:=by rw [q0d]; omega
     simp [q1L,-V,-y3,-y0,J,anN,e0,hn,eK,eJ,eA,ga,di,hw,g1,g3,ba,q1];refine ih mj _ ⟨?_,?_,?_,[((k:Int),(j:Int))],?_,.inr ?_,?_,?_⟩
     all_goals first | omega | (simp [e0,eK,gapA,prC]; done) | (simp; omega) | (simp; rfl)
    ·cases br:acc.isEmpty
     ·rw [br] at eA;simp [q1L,-V,-y3,-y0,J,anN,aA,e0,hn,eK,eJ,eA,ga,di,hw,g1,g3,ba,q1];refine ih mj _ ⟨?_,?_,?_,acc++[((k:Int),(j:Int))],?_,.inr ?_,?_,?_⟩
      all_goals first | omega | (simp [e0,eK,gapA,prC]; done) | (simp; omega)
     ·rw [br] at eA;simp [q1L,-V,-y3,-y0,J,anN,aA,e0,hn,eK,eJ,eA,ga,di,hw,g1,g3,ba,q1];refine ih mj _ ⟨?_,?_,?_,acc++[((k:Int),(j:Int))],?_,.inr ?_,?_,?_⟩
      all_goals first | omega | (simp [e0,eK,gapA,prC]; done) | (simp; omega)
   ·simp only [fa,true_and,if_true,List.nil_append] at hk ih;simp [q1L,-V,-y3,-y0,J,e0,hn,eK,eJ,eA,ga,di,hw,g1,g3,ba,q1];refine ih mj _ ⟨?_,?_,?_,acc,?_,?_,?_,?_⟩
    all_goals first | omega | (simp [e0,eK,eA,gapA]; done) | (rcases aA with h | h <;> simp [h]; done) | (simp; omega) | rfl
 ·have dI:j=n:=by omega
  have hz:q6h cp n k (n - j) j=[]:=by rw [show n - j=0 from by omega]; rfl
  rw [hz,yO] at hk;have ga:¬ (j:Int)<n:=by omega
  skip
  simp [q1L,-V,-y3,-y0,J,e0,hn,eJ,ga];refine hk _ _ ⟨rfl,?_,?_,?_,?_⟩
  all_goals first | omega | (simp [e0,eK,eA]; done) | (rcases aA with h | h <;> simp [h]; done)
section
variable (b:Bool) {L:List Rt} (h0:0<L.length) (hl:L.length<=8) (hL:∀ x∈L,x.ok) {cp:Nat->Nat->Bool} (hc:CmpE L cp)
include b L h0 hl hL cp hc
theorem pgap_ev:evA 54 [.sl b (L.map rtC)] (.tup [gapA (q6F cp L.length L.length),.int .i64 0]):=by
 refine q00 (c:=q5b) rfl rfl ?_;have he:=q9Z b h0 hl hL hc;simp only [evA] at he;have bm:∀ l,matA cp L.length=.sl false l->l.length=L.length:=fun l h=>by injection h with _ h; rw [<- h]; simp
 obtain ⟨ma,sj⟩:∃ ma,matA cp L.length=.sl false ma:=⟨_,rfl⟩;have ja:=bm ma sj;rw [sj] at he;simp [q5b,-V,-y3,-y0,J,he,ja];generalize L.length=n at *
 refine q06 n (fun k s=>(s.env 4).v=matA cp n/\(s.env 5).v=.int .i64 0/\(s.env 15).v=.int .i64 n/\(s.env 16).v=.int .i64 k/\(s.env 6).v=gapA (q6F cp n k)/\(q6F cp n k=[]\/(s.env 6).a=.own 50 63))
  (fun e s=>e=.exit 0/\(s.env 5).v=.int .i64 0/\(s.env 6).v=gapA (q6F cp n n)) (fun k th s k' h ih hk=>?_) _ _ ?_ (fun e s h=>?_)
 ·obtain ⟨e4,e5,fc,oc,e6,a6⟩:=h;refine q02 ?_;by_cases fa:k<n
  ·have ga:(k:Int)<n:=by omega
   have hw:=q0s (i:=k);have hb:(q6F cp n k).length<=64:=by
    have h1:=q9Q cp n k;have h2:k * n<=8 * 8:=Nat.mul_le_mul (by omega) hl;omega
   simp [q56,-V,-y3,-y0,J,fc,oc,ga,hw];refine pgap_in (n:=n) (cp:=cp) hl fa _ (by simp [e4]) (by simp [e5]) (by simp [fc]) (by simp [oc]) (by simp) (by simp) (q6F cp n k) hb (by simp [e6]) (by simpa using a6) _ (fun s' h=>?_);obtain ⟨h1,h2,h3,h4,_,h6,h7⟩:=h;simp [-V,-y3,-y0,J,h4,hw];refine ih fa _ ⟨?_,?_,?_,?_,?_,?_⟩
   all_goals first | exact h7 | (simp [h1,h2,h3,h6]; done) | (simp [h6]; rfl)
  ·have ji:k=n:=by omega
   subst ji;simp [q56,-V,-y3,-y0,J,fc,oc];exact hk _ _ ⟨rfl,e5,e6⟩
 ·simp [sj,q6F,gapA]
 ·obtain ⟨rfl,h,h'⟩:=h;simp only [gapA] at h' ⊢;simp [-V,-y3,-y0,J,h,h']
theorem rgap_ev:evA 55 [.sl b (L.map rtC)] (.tup [gapA (q6F cp L.length L.length),.int .i64 0]):=by
 refine q00 (c:=q72) rfl rfl ?_;have he:=q9S b L hl hL;simp only [evA] at he;simp [q72,-V,-y3,-y0,J,he];obtain ⟨n,hn⟩:∃ n,L.length=n:=⟨_,rfl⟩;rw [hn] at hl ⊢;refine q06 n (fun k s=>(s.env 0).v=.sl b (L.map rtC)/\(s.env 6).v=.int .i64 k/\(s.env 5).v=gapA (q6F cp n k)/\(q6F cp n k=[]\/(s.env 5).a=.own 44 63))
  (fun e s=>e=.exit 0/\(s.env 5).v=gapA (q6F cp n n)) (fun k th s k' h ih hk=>?_) _ _ ?_ (fun e s h=>?_)
 ·obtain ⟨e0,e6,e5,a5⟩:=h;refine q02 ?_;by_cases fa:k<n
  ·have ga:(k:Int)<n:=by omega
   have hw:=q0s (i:=k);have hb:(q6F cp n k).length<=64:=by
    have h1:=q9Q cp n k;have h2:k * n<=8 * 8:=Nat.mul_le_mul (by omega) hl;omega
   simp [q6B,-V,-y3,-y0,J,e0,hn,e6,ga,hw];refine rgap_in (b:=b) (L:=L) (n:=n) (cp:=cp) hn hl hc fa _ (by simp [e0]) (by simp [e6]) (by simp) (q6F cp n k) hb (by simp [e5]) (by simpa using a5) _ (fun s' h=>?_);obtain ⟨h1,h4,h6,h7⟩:=h;simp [-V,-y3,-y0,J,h4,hw];refine ih fa _ ⟨?_,?_,?_,?_⟩
   all_goals first | exact h7 | (simp [h1,h6]; done) | (simp [h6]; rfl)
  ·have ji:k=n:=by omega
   subst ji;simp [q6B,-V,-y3,-y0,J,e0,hn,e6];exact hk _ _ ⟨rfl,e5⟩
 ·simp [q6F,gapA]
 ·obtain ⟨rfl,h'⟩:=h;simp only [gapA] at h' ⊢;simp [-V,-y3,-y0,J,h']
end
theorem allB_true {f:Nat->Bool} {n:Nat} (h:allB f n=true):∀ k,k<n->f k=true:=by
 induction n with
 | zero=>omega
 | succ n ih =>
  intro k hk;simp only [allB,y7] at h;by_cases e:k=n
  ·subst e; exact h.2
  ·exact ih h.1 k (by omega)
theorem gapIn_none {cp:Nat->Nat->Bool} {n k:Nat} (h:∀ j,k<j->j<n->cp k j=true):∀ m j,k<j->q6h cp n k m j=[]
 | 0,_,_=>rfl
 | m + 1,j,hj=>by
  unfold q6h;split
  ·rename_i hc;rw [if_pos (h j hj hc.1),gapIn_none h m (j + 1) (by omega)];rfl
  ·rfl
theorem gaps_none {cp:Nat->Nat->Bool} {n:Nat} (h:bwP cp n=true):∀ k,k<=n->q6F cp n k=[]
 | 0,_=>rfl
 | k + 1,hk=>by
  unfold q6F;rw [gaps_none h k (by omega),gapIn_none (fun j h1 h2=>allB_true (allB_true h j h2) k h1) _ _ (by omega)];rfl
theorem RtD.ok {x:Rt} (h:RtD x):x.ok:=by
 obtain ⟨l,hl,e,h0,h1⟩:=h;obtain ⟨S,t⟩:=x;dsimp only at e h0 h1;subst e;exact ⟨q4g hl,h0,h1⟩
theorem cmp_ex {x y:Rt} (hx:RtD x) (hy:RtD y):∃ z,evA 21 [.agg (rtC x),.agg (rtC y)] (.tup [.bool z,.int .i64 0])/\evA 29 [.agg (rtC x),.agg (rtC y)] (.tup [.bool z,.int .i64 0]):=by
 obtain ⟨l1,o1,e1,a0,a1⟩:=hx;obtain ⟨l2,o2,e2,b0,b1⟩:=hy;obtain ⟨S1,t⟩:=x;obtain ⟨S2,u⟩:=y;dsimp only at e1 e2 a0 a1 b0 b1;subst e1;subst e2;have hF:=simF (draft_F o1) (draft_F o2);have hz:=botE_zero ⟨a0,a1⟩ ⟨b0,b1⟩;have h1:=scompat_ev (q4g o1) (q4g o2) (i:=t) (k:=u) (fun _=>hF) (by dsimp only; rw [hz]; decide);have h2:=rcompat_ev (q4g o1) (q4g o2) (i:=t) (k:=u) (fun _=>hF);dsimp only at h1 h2;rw [hz] at h1 h2;exact ⟨_,h1,h2⟩
theorem cmpE_ex {L:List Rt} (hL:∀ x∈L,RtD x):∃ cp,CmpE L cp:=by
 classical
 have H:∀ i j,∃ z:Bool,∀ x y,L[i]?=some x->L[j]?=some y->evA 21 [.agg (rtC x),.agg (rtC y)] (.tup [.bool z,.int .i64 0])/\evA 29 [.agg (rtC x),.agg (rtC y)] (.tup [.bool z,.int .i64 0]):=fun i j=>by
  by_cases hi:i<L.length
  ·by_cases hj:j<L.length
   ·obtain ⟨z,h1,h2⟩:=cmp_ex (hL L[i] (y6 hi)) (hL L[j] (y6 hj));refine ⟨z,fun x y ex ey=>?_⟩;rw [y5 hi] at ex;rw [y5 hj] at ey;injection ex with ex;injection ey with ey;subst ex;subst ey;exact ⟨h1,h2⟩
   ·exact ⟨true,fun x y _ ey=>by rw [yL (by omega)] at ey; cases ey⟩
  ·exact ⟨true,fun x y ex _=>by rw [yL (by omega)] at ex; cases ex⟩
 exact ⟨fun i j=>(H i j).choose,fun i j x y ex ey=>(H i j).choose_spec x y ex ey⟩
theorem ways_ev {dn cn:Bool} {l:List Nde} {css:List Chs} {T:Int} (h:HistOk l css T):evG 13 [.agg (histC dn l cn css T)] (.bool true):=by
 refine q9O q1j rfl rfl ?_ (by rfl);have fx:=awake24_ev;obtain ⟨r,hr,gp⟩:=of24_ev (dn:=dn) (cn:=cn) h;have gp:=qbE qbL gp;simp only [evG] at fx;rcases hr with rfl | ⟨L,l1,l5,hL,rfl⟩
 ·simp only [histC,badR] at gp ⊢;simp [q1j,-V,-y3,-y0,J,gp,fx]
 ·obtain ⟨cp,hc⟩:=cmpE_ex hL;have la:∀ x∈L,x.ok:=fun x hx=>(hL x hx).ok
  have f1:=ev_G (pbw_ev false (by omega) (by omega) la hc);have f2:=ev_G (rbw_ev false (by omega) la hc);have f3:=ev_G (pfw_ev false (by omega) (by omega) la hc);have f4:=ev_G (rfw_ev false (by omega) la hc);have f5:=ev_G (pgap_ev false (by omega) (by omega) la hc);have f6:=ev_G (rgap_ev false (by omega) (by omega) la hc);have xv:(q6F cp L.length L.length).length<=1000000:=by
   have h1:=q9Q cp L.length L.length;have h2:L.length * L.length<=5 * 5:=Nat.mul_le_mul l5 l5;omega
  have f7:=fun b c=>ev_G (pairs_same _ xv b c)
  have tc:bwP cp L.length=true->(q6F cp L.length L.length)=[]:=fun h=>gaps_none h _ (ym _)
  simp only [evG,histC,gapA] at f1 f2 f3 f4 f5 f6 f7 gp ⊢;generalize fwP cp L.length=w at *
  generalize q6F cp L.length L.length=G at *
  generalize bwP cp L.length=v at *
  cases v
  ·simp [q1j,-V,-y3,-y0,J,gp,fx,f1,f2,f3,f4,f5,f6,f7]
  ·have hG:=tc rfl;subst hG;simp only [List.isEmpty_nil,yr] at f5 f6 f7;simp [q1j,-V,-y3,-y0,J,gp,fx,f1,f2,f3,f4,f5,f6,f7]
end Go.Proofs.YtbnlmgncbgaepaaGreat
