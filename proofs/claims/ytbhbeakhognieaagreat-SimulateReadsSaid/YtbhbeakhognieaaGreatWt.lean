/- A part of the proof. -/
import Derived.Test.YtbhbeakhognieaaGreatWm
import Derived.Test.YtbhbeakhognieaaGreatWs
set_option linter.all false
set_option maxRecDepth 100000
set_option maxHeartbeats 8000000
open Option renaming bind_some → J
open List renaming range_succ → y0, map_map → y3, mem_cons → yg, mem_cons_self → yl, mem_cons_of_mem → yo, mem_append → yx, cons_append → yR
open Int renaming toNat_lt → y4, tmod_eq_emod_of_nonneg → yt, emod_nonneg → yC, emod_lt_of_pos → yD
open Bool renaming and_eq_true → y7
namespace Go.Proofs.YtbhbeakhognieaaGreat
open Go
def xP (dn:Bool) (l:List fC) (cn:Bool) (cs:List zW) (T U:Int):List AV:=[.sl dn (l.map sD),.sl cn (cs.map HW),.int .u8 T,.int .u8 U]
structure N8 (l:List fC) (cs:List zW) (T U:Int):Prop where
 nds:∀ x∈l,x.ok/\x.sized
 sz:l.length * 32<=140737488355328
 chs:∀ c∈cs,c.ok
 cl:cs.length<=9223372036854775807
 t:u8 T
 u:u8 U
def ST:AV:=.tup [.agg [.sl true [],.int .i64 0],.agg [.sl true [],.int .i64 0],.bool false]
theorem of20_ev {dn cn:Bool} {l:List fC} {cs:List zW} {T U:Int} (h:N8 l cs T U):∃ r:RV,(r=(ST,none)\/∃ l1 l2 t u,oks l1/\oks l2/\rP (lA l1).length (lA l2).length (t,u)/\r=(.tup [.agg (JG ⟨false,lA l1⟩ t),.agg (JG ⟨false,lA l2⟩ u),.bool true],none))/\dF jA tA 24 [.agg (xP dn l cn cs T U)] none=some r:=by
 obtain ⟨r1,⟨l2,gq,rfl⟩,iy⟩:=Q9 (dn:=dn) (cn:=cn) h.nds h.sz h.chs h.cl;have ox:=of07_ev (dn:=dn) (l:=l) fun x hx=>(h.nds x hx).1
 have zr:=of07_ev (dn:=false) (l:=l2) gq;obtain ⟨t0,t1⟩:=h.t;obtain ⟨u0,u1⟩:=h.u;have hwT:IntKind.i64.wrap T=T:=IntWalk.i64_in _ (by omega);have hwU:IntKind.i64.wrap U=U:=IntWalk.i64_in _ (by omega);simp only [gA,uG] at ox zr iy;rcases ox with ⟨hok1,ox⟩ | ⟨_,ox⟩
 ·rcases zr with ⟨ej,zr⟩ | ⟨_,zr⟩
  ·by_cases h5:5<(cs.length:Int)
   ·refine ⟨_,.inl rfl,?_⟩;refine rA (c:=HE) rfl rfl ?_;simp [HE,xP,ST,-J,-y4,-y3,y0,ox,iy,zr,h5]
   ·have hS1:(lA l).length=l.length:=by simp [lA]
    have hS2:(lA l2).length=l2.length:=by simp [lA]
    have p1:=hok1.1;have p2:=ej.1;have p15:=hok1.2.1;have p25:=ej.2.1;have a0:=yC T (b:=((lA l).length:Int)) (by omega);have a1:=yD T (b:=((lA l).length:Int)) (by omega);have am:T.tmod (lA l).length=T % (lA l).length:=yt t0;generalize T % ((lA l).length:Int)=t at *
    have hwA:IntKind.i64.wrap (t + U)=t + U:=IntWalk.i64_in _ (by omega);have b0:=yC (t + U) (b:=((lA l2).length:Int)) (by omega);have b1:=yD (t + U) (b:=((lA l2).length:Int)) (by omega);have bm:(t + U).tmod (lA l2).length=(t + U) % (lA l2).length:=yt (by omega);have n1:¬ (lA l)=[]:=fun e=>by rw [e] at hS1; simp at hS1; omega
    have n2:¬ (lA l2)=[]:=fun e=>by rw [e] at hS2; simp at hS2; omega
    have n1':¬ (lA l).length=0:=by omega
    have n2':¬ (lA l2).length=0:=by omega
    generalize hu:(t + U) % ((lA l2).length:Int)=u at *
    refine ⟨_,.inr ⟨l,l2,t,u,hok1,ej,⟨a0,a1,b0,b1⟩,rfl⟩,?_⟩;refine rA (c:=HE) rfl rfl ?_;simp only [JG];generalize lA l=S1 at *
    generalize lA l2=S2 at *
    simp [HE,xP,-J,-y4,-y3,y0,ox,iy,zr,h5,hwT,hwU,am,bm,hwA,n1,n2,n1',n2']
  ·refine ⟨_,.inl rfl,?_⟩;refine rA (c:=HE) rfl rfl ?_;simp [HE,xP,ST,-J,-y4,-y3,y0,ox,iy,zr]
 ·refine ⟨_,.inl rfl,?_⟩;refine rA (c:=HE) rfl rfl ?_;rcases zr with ⟨_,zr⟩ | ⟨_,zr⟩
  ·simp [HE,xP,ST,-J,-y4,-y3,y0,ox,iy,zr]
  ·simp [HE,xP,ST,-J,-y4,-y3,y0,ox,iy,zr]
section
open Go Go.RowKit Go.ChangeShapes Go.WideShapes
theorem mixed:Tryz.prog.follows .mixedOrders=true:=by kernel_rfl
theorem u8_of {n:Int} (h:(Lit.int .u8 n).wf=true):u8 n:=by
 simp only [Lit.wf,y7,decide_eq_true_eq] at h;have h1:IntKind.u8.min=0:=rfl;have h2:IntKind.u8.max=255:=rfl;exact ⟨by omega,by omega⟩
def caseTs:List TypeId:=[59,49,47,146,144,160,57,157,5,3]
theorem IT {H:Type} {P:Program} {m:Nat}:∀ {ts us:List TypeId} {ds gs:List (DataW H)},m∈DataW.weightsEach P ts ds->ts.length=ds.length->m∈DataW.weightsEach P (ts++us) (ds++gs)
 | [],_,[],_,h,_=>by simp [DataW.weightsEach] at h
 | [],_,_ :: _,_,_,h=>by simp at h
 | _ :: _,_,[],_,_,h=>by simp at h
 | t :: ts,us,d :: ds,gs,h,hl=>by
  simp only [DataW.weightsEach,yx,yR] at h ⊢;rcases h with h | h
  ·exact .inl h
  ·exact .inr (IT h (by simpa using hl))
theorem TX {α:Type} {P:List AV->Prop} {f:α->List AV} {p:α->Prop} (h:∀ x,P x->∃ o,x=f o/\p o):∀ els:List (List AV),(∀ x∈els,P x)->∃ L:List α,els=L.map f/\∀ o∈L,p o
 | [],_=>⟨[],rfl,fun _ h=>by cases h⟩
 | x :: r,hx=>by
  obtain ⟨L,h1,h2⟩:=TX h r fun y hy=>hx y (yo _ hy)
  obtain ⟨o,h3,h4⟩:=h x (hx x yl);refine ⟨o :: L,by rw [h1,h3]; rfl,fun y hy=>?_⟩;rcases yg.1 hy with rfl | hy
  ·exact h4
  ·exact h2 y hy
theorem bytesNode:Tryz.prog.bytesOf 146=32:=by kernel_rfl
theorem bytesPart:Tryz.prog.bytesOf 160=3:=by kernel_rfl
theorem reachB:reachBytes=140737488351232:=rfl
section
variable {n:Nat} {a:List AV}
include n a
theorem tyU (h:lM Tryz.prog n 5 a):∃ x,a=[.int .u8 x]/\u8 x:=by
 cases n with
 | zero=>exact h.elim
 | succ n =>
  simp only [lM,Tryz.underlying5] at h;obtain ⟨x,rfl,hx⟩:=h;exact ⟨x,rfl,u8_of hx⟩
theorem tyPart (h:lM Tryz.prog n 160 a):∃ p:pQ,a=ND p/\p.ok:=by
 cases n with
 | zero=>exact h.elim
 | succ n =>
  simp only [lM,Tryz.underlying160,pP] at h;obtain ⟨_,_,rfl,_,h1,_,_,rfl,_,h2,_,_,rfl,_,h3,rfl⟩:=h;obtain ⟨x1,rfl,u1⟩:=tyU h1;obtain ⟨x2,rfl,u2⟩:=tyU h2;obtain ⟨x3,rfl,u3⟩:=tyU h3;exact ⟨⟨x1,x2,x3⟩,rfl,u1,u2,u3⟩
theorem tyChg (h:lM Tryz.prog n 157 a):∃ c:zW,a=HW c/\c.ok:=by
 cases n with
 | zero=>exact h.elim
 | succ n =>
  simp only [lM,Tryz.underlying157,pP] at h;obtain ⟨_,_,rfl,_,h1,_,_,rfl,_,h2,_,_,rfl,_,h3,_,_,rfl,_,h4,rfl⟩:=h;obtain ⟨x1,rfl,u1⟩:=tyU h1;obtain ⟨x2,rfl,u2⟩:=tyU h2;obtain ⟨x3,rfl,u3⟩:=tyU h3;obtain ⟨x4,rfl,u4⟩:=tyU h4;exact ⟨⟨x1,x2,x3,x4⟩,rfl,u1,u2,u3,u4⟩
theorem tyParts (h:lM Tryz.prog n 144 a):∃ nl,∃ ps:List pQ,a=[.sl nl (ps.map ND)]/\(∀ p∈ps,p.ok)/\ps.length * 3<=140737488351232:=by
 cases n with
 | zero=>exact h.elim
 | succ n =>
  simp only [lM,Tryz.underlying144,bytesPart,reachB] at h;obtain ⟨nl,els,rfl,_,h2,_,h4⟩:=h;obtain ⟨L,rfl,hL⟩:=TX (P:=fun x=>lM Tryz.prog n 160 x) (fun x hx=>tyPart hx) els (fun x hx=>(h4 x hx).2);exact ⟨nl,L,rfl,hL,by simpa using h2⟩
theorem tyChgs (h:lM Tryz.prog n 57 a):∃ nl,∃ ps:List zW,a=[.sl nl (ps.map HW)]/\(∀ p∈ps,p.ok)/\ps.length<=9223372036854775807:=by
 cases n with
 | zero=>exact h.elim
 | succ n =>
  simp only [lM,Tryz.underlying57] at h;obtain ⟨nl,els,rfl,h1,_,_,h4⟩:=h;obtain ⟨L,rfl,hL⟩:=TX (P:=fun x=>lM Tryz.prog n 157 x) (fun x hx=>tyChg hx) els (fun x hx=>(h4 x hx).2);exact ⟨nl,L,rfl,hL,by simpa [maxLen] using h1⟩
theorem tyNode (h:lM Tryz.prog n 146 a):∃ x:fC,a=sD x/\x.ok/\x.sized:=by
 cases n with
 | zero=>exact h.elim
 | succ n =>
  simp only [lM,Tryz.underlying146,pP] at h;obtain ⟨_,_,rfl,_,h1,_,_,rfl,_,h2,_,_,rfl,_,h3,_,_,rfl,_,h4,_,_,rfl,_,h5,rfl⟩:=h;obtain ⟨x1,rfl,u1⟩:=tyU h1;obtain ⟨x2,rfl,u2⟩:=tyU h2;obtain ⟨x3,rfl,u3⟩:=tyU h3;obtain ⟨x4,rfl,u4⟩:=tyU h4;obtain ⟨nl,ps,rfl,p1,p2⟩:=tyParts h5;exact ⟨⟨x1,x2,x3,x4,nl,ps⟩,rfl,⟨u1,u2,u3,u4,by dsimp only; omega,p1⟩,by unfold fC.sized; dsimp only; omega⟩
theorem tyDraft (h:lM Tryz.prog n 49 a):∃ nl,∃ l:List fC,a=[.sl nl (l.map sD)]/\(∀ x∈l,x.ok/\x.sized)/\l.length * 32<=140737488351232:=by
 cases n with
 | zero=>exact h.elim
 | succ n =>
  simp only [lM,Tryz.underlying49,pP] at h;obtain ⟨_,_,rfl,_,h1,rfl⟩:=h;cases n with
  | zero=>exact h1.elim
  | succ n =>
   simp only [lM,Tryz.underlying47,bytesNode,reachB] at h1;obtain ⟨nl,els,rfl,_,h2,_,h4⟩:=h1;obtain ⟨L,rfl,hL⟩:=TX (P:=fun x=>lM Tryz.prog n 146 x) (fun x hx=>tyNode hx) els (fun x hx=>(h4 x hx).2);exact ⟨nl,L,rfl,hL,by simpa using h2⟩
end
theorem caseTy {a:AV} (h:ParT Tryz.prog 59 a):∃ dn,∃ l:List fC,∃ cn,∃ cs:List zW,∃ T U:Int,a=.agg (xP dn l cn cs T U)/\N8 l cs T U:=by
 obtain ⟨n,⟨_,c,rfl,h⟩ | ⟨hw,_⟩⟩:=h
 ·cases n with
  | zero=>exact h.elim
  | succ n =>
   simp only [lM,Tryz.underlying59,pP] at h;obtain ⟨_,_,rfl,_,h1,_,_,rfl,_,h2,_,_,rfl,_,h3,_,_,rfl,_,h4,rfl⟩:=h;obtain ⟨dn,l,rfl,l1,l2⟩:=tyDraft h1;obtain ⟨cn,cs,rfl,c1,c2⟩:=tyChgs h2;obtain ⟨T,rfl,u3⟩:=tyU h3;obtain ⟨U,rfl,u4⟩:=tyU h4;exact ⟨dn,l,cn,cs,T,U,rfl,l1,by omega,c1,c2,u3,u4⟩
 ·have zg:jM Tryz.prog 59=true:=by kernel_rfl
  rw [zg] at hw;cases hw
end
end Go.Proofs.YtbhbeakhognieaaGreat
