/- A part of the proof. -/
import Derived.Test.YtjoaiabjebpbjaaGreatSn
import Derived.Test.YtjoaiabjebpbjaaGreatSu
set_option linter.all false
set_option maxRecDepth 100000
set_option maxHeartbeats 8000000
open Option renaming bind_some → V
open List renaming range_succ → J, map_map → y0, mem_cons → yc, mem_cons_of_mem → yh, mem_cons_self → yk, map_nil → yo, getElem_of_mem → yy
open Int renaming toNat_lt → y3, tmod_eq_emod_of_nonneg → yu, emod_nonneg → yJ, emod_lt_of_pos → yM
open Bool renaming and_eq_true → y7
namespace Go.Proofs.YtjoaiabjebpbjaaGreat
open Go
theorem typZ_few {l:List OD} (i:Int):(IB l i).mems.length<=12/\LE (IB l i).low/\LE (IB l i).high:=by
 have z0:LE 0:=by unfold LE; omega
 have hp:∀ rc,(uF l i rc (HA l i).parts).length<=12:=fun rc=>TL l i rc _ 12
 unfold IB;simp only;split
 ·exact ⟨by simp [gA.of],z0,z0⟩
 ·refine ⟨by simp [gA.of],?_,?_⟩
  ·simp only [gA.of,OD.low]; unfold LE; omega
  ·simp only [gA.of,OD.low,OD.high]; unfold LE; omega
 ·exact ⟨by simp [gA.of],z0,z0⟩
 ·exact ⟨by simp [gA.of],z0,z0⟩
 ·exact ⟨hp true,z0,z0⟩
 ·split
  ·exact ⟨by simp [gA.of],z0,z0⟩
  ·exact ⟨hp false,z0,z0⟩
 ·exact ⟨by simp [gA.of],z0,z0⟩
 ·split
  ·exact ⟨by simp [gA.of],z0,z0⟩
  ·exact ⟨by simp [gA.of],z0,z0⟩
 ·exact ⟨by simp [gA.of],z0,z0⟩
theorem rwS_few {l:List OD} {T:List gA} (h:rwS l.length (lF l) T):∀ x∈T,x.mems.length<=12/\LE x.low/\LE x.high:=fun x hx=>by
 obtain ⟨j,hj,rfl⟩:=yy hx;obtain ⟨bs,ph,hb⟩:=KT h hj;obtain ⟨h1,h2,h3⟩:=typZ_few (l:=l) (j:Int);rw [hb];exact ⟨by show bs.length<=12; have:=ph.1; omega,h2,h3⟩
theorem least11_ev {dn wn:Bool} {l:List OD} (hl:∀ x∈l,x.ok) {ws:List lX} (hw:∀ w∈ws,w.ok) {t:Int} (ht:0<=t/\t<=255):sA 6 [.agg [.sl dn (l.map AD),.sl wn (ws.map RR)],.int .u8 t] (.bool true):=by
 have fu:=cX;refine wA (c:=MB) rfl rfl ?_;obtain ⟨r,h,hof⟩:=of11_ev (dn:=dn) (wn:=wn) hl hw;rcases h with ⟨_,rfl⟩ | ⟨ho,_,T,hT,rfl⟩
 ·simp [MB,-V,-y3,-y0,J,hof,fu]
 ·obtain ⟨hf,h6⟩:=rwS_ok ho hT;have herr:=rwS_err ho hT;have ab:0<T.length:=by rw [LT hT]; exact ho.1
  have hS:PD (⟨false,T⟩:PM).types:=PD.of hf h6 (fun x hx=>(rwS_few hT x hx).2) herr;have h1:IntKind.i64.wrap t=t:=IntWalk.i64_in _ (by omega);have h2:t.tmod T.length=t % T.length:=yu ht.1;have ba:T.length<=32:=hS.len;have h3:IntKind.i64.wrap (t % T.length)=t % T.length:=IntWalk.i64_in _ (by have:=yM t (show (0:Int)<T.length by omega); have:=yJ t (show (T.length:Int)≠0 by omega); omega);have ta:¬ T.length=0:=by omega
  have hne2:¬ T=[]:=fun h=>by rw [h] at ab; exact absurd ab (by decide)
  have ic:CH T (t % T.length)=0:=by
   unfold CH;rw [if_neg (by rw [herr]; decide)];have:=yM t (show (0:Int)<T.length by omega);have:=yJ t (show (T.length:Int)≠0 by omega);rw [if_neg (by omega)]
  obtain ⟨e,q0,q1,q2,q3,q4⟩:=B7 ⟨false,T⟩ hf h6 hS (fun x hx=>(rwS_few hT x hx).1) _ ic;simp only [sA,JA,leaR,sizR,CW] at q1 q2 q3 q4;cases hk:e.known with
  | false =>
   have ur:sA 36 [.agg (pA .zero),.agg (pA .zero)] (.bool true):=by
    have:=pS .zero .zero (by simp [Vl.zero,Vl.ok,Vl.oks]; decide)
    rwa [Vl.same_refl] at this
   rw [qA] at ur;simp only [sA,Vl.zero,Vl.kind,Vl.b,Vl.i,Vl.s,Vl.id,Vl.kn,Vl.keys,Vl.xn,Vl.items,Vl.rn,Vl.rest,yo] at ur;simp only [hk] at q1 q2 q3 q4;simp at q1 q2 q3 q4;simp [MB,-V,-y3,-y0,J,hof,fu,h1,h2,h3,ta,hne2,q1,q2,q3,q4,ur]
  | true =>
   cases ec:e.long with
   | true =>
    have ur:sA 36 [.agg (pA .zero),.agg (pA .zero)] (.bool true):=by
     have:=pS .zero .zero (by simp [Vl.zero,Vl.ok,Vl.oks]; decide)
     rwa [Vl.same_refl] at this
    rw [qA] at ur;simp only [sA,Vl.zero,Vl.kind,Vl.b,Vl.i,Vl.s,Vl.id,Vl.kn,Vl.keys,Vl.xn,Vl.items,Vl.rn,Vl.rest,yo] at ur;simp only [hk,ec] at q1 q2 q3 q4;simp at q1 q2 q3 q4;simp [MB,-V,-y3,-y0,J,hof,fu,h1,h2,h3,ta,hne2,q1,q2,q3,q4,ur]
   | false =>
    have ur:=pS e.v.cl e.v (Vl.cl_ok e.v (q0 hk ec));rw [Vl.cl_same] at ur;simp only [hk,ec] at q1 q2 q3 q4;simp at q1 q2 q3 q4;simp only [sA,qA e.v,qA e.v.cl] at ur q1 q2;simp [MB,-V,-y3,-y0,J,hof,fu,h1,h2,h3,ta,hne2,q1,q2,q3,q4,ur]
section
open Go Go.RowKit Go.ChangeShapes Go.WideShapes
theorem eX {α:Type} {sh:List Cs} {f:α->List AV} {p:α->Prop} (h:∀ x,bP sh x->∃ o,x=f o/\p o):∀ els:List (List AV),(∀ x∈els,bP sh x)->∃ L:List α,els=L.map f/\∀ o∈L,p o
 | [],_=>⟨[],rfl,fun _ h=>by cases h⟩
 | x :: r,hx=>by
  obtain ⟨L,h1,h2⟩:=eX h r fun y hy=>hx y (yh _ hy)
  obtain ⟨o,h3,h4⟩:=h x (hx x yk);refine ⟨o :: L,by rw [h1,h3]; rfl,fun y hy=>?_⟩;rcases yc.1 hy with rfl | hy
  ·exact h4
  ·exact h2 y hy
theorem ER {n:Int} (h:(Lit.int .u8 n).wf=true):u8 n:=by
 simp only [Lit.wf,y7,decide_eq_true_eq] at h;have h1:IntKind.u8.min=0:=rfl;have h2:IntKind.u8.max=255:=rfl;exact ⟨by omega,by omega⟩
def D3:List Cs:=[.int .u8,.int .u8,.int .u8]
def ndeSh:List Cs:=[.int .u8,.int .u8,.int .u8,.int .u8,.sl D3]
theorem prtTy (x:List AV) (h:bP D3 x):∃ p:b6,x=prtC p/\p.ok:=by
 simp only [D3,bP,TyC] at h;obtain ⟨_,_,rfl,⟨a,rfl,ha⟩,_,_,rfl,⟨b,rfl,hb⟩,_,_,rfl,⟨c,rfl,hc⟩,rfl⟩:=h;exact ⟨⟨a,b,c⟩,rfl,ER ha,ER hb,ER hc⟩
theorem wireTy (x:List AV) (h:bP D3 x):∃ w:lX,x=RR w/\w.ok:=by
 simp only [D3,bP,TyC] at h;obtain ⟨_,_,rfl,⟨a,rfl,ha⟩,_,_,rfl,⟨b,rfl,hb⟩,_,_,rfl,⟨c,rfl,hc⟩,rfl⟩:=h;exact ⟨⟨a,b,c⟩,rfl,ER ha,ER hb,ER hc⟩
theorem ndeTy (x:List AV) (h:bP ndeSh x):∃ n:OD,x=AD n/\n.ok:=by
 simp only [ndeSh,bP,TyC] at h;obtain ⟨_,_,rfl,⟨a,rfl,ha⟩,_,_,rfl,⟨b,rfl,hb⟩,_,_,rfl,⟨c,rfl,hc⟩,_,_,rfl,⟨d,rfl,hd⟩,_,_,rfl,⟨pn,els,rfl,ub,he⟩,rfl⟩:=h;obtain ⟨L,rfl,hL⟩:=eX prtTy els he;exact ⟨⟨a,b,c,d,pn,L⟩,rfl,ER ha,ER hb,ER hc,ER hd,by simpa [maxLen] using ub,hL⟩
theorem looseTy {a:AV} (h:S6 Tryz.prog 8 77 a):∃ dn,∃ l:List OD,∃ wn,∃ ws:List lX,a=.agg [.sl dn (l.map AD),.sl wn (ws.map RR)]/\(∀ x∈l,x.ok)/\∀ w∈ws,w.ok:=by
 obtain ⟨sh,hs,h⟩:=h;have mg:UZ Tryz.prog 8 77=some [.sl ndeSh,.sl D3]:=by kernel_rfl
 rw [mg] at hs;injection hs with hs;subst hs;rcases h with ⟨_,l,rfl,h⟩ | ⟨hw,_⟩
 ·simp only [bP,TyC] at h;obtain ⟨_,_,rfl,⟨dn,els,rfl,_,he⟩,_,_,rfl,⟨wn,els',rfl,_,th⟩,rfl⟩:=h;obtain ⟨L,rfl,hL⟩:=eX ndeTy els he;obtain ⟨M,rfl,hM⟩:=eX wireTy els' th;exact ⟨dn,L,wn,M,rfl,hL,hM⟩
 ·have fh:xF Tryz.prog 77=true:=by kernel_rfl
  rw [fh] at hw;cases hw
theorem u8TyP {a:AV} (h:S6 Tryz.prog 8 5 a):∃ x,a=.int .u8 x/\(0<=x/\x<=255):=by
 obtain ⟨sh,hs,h⟩:=h;have mg:UZ Tryz.prog 8 5=some [.int .u8]:=by kernel_rfl
 rw [mg] at hs;injection hs with hs;subst hs;rcases h with ⟨hw,_⟩ | ⟨_,h⟩
 ·have fh:xF Tryz.prog 5=false:=by kernel_rfl
  rw [fh] at hw;cases hw
 ·simp only [bP,TyC] at h;obtain ⟨_,_,e,⟨x,rfl,hx⟩,rfl⟩:=h;injection e with e;subst e;have h1:IntKind.u8.min=0:=rfl;have h2:IntKind.u8.max=255:=rfl;simp only [Lit.wf,y7,decide_eq_true_eq] at hx;exact ⟨x,rfl,by omega⟩
end
end Go.Proofs.YtjoaiabjebpbjaaGreat
