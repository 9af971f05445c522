/- A part of the proof. -/
import Derived.Test.YtbnlmgncbgaepaaGreatTm
import Derived.Test.YtbnlmgncbgaepaaGreatTs
set_option linter.all false
set_option maxRecDepth 100000
set_option maxHeartbeats 8000000
open Option renaming bind_some → V
open List renaming range_succ → y0, map_map → y3, getElem?_eq_getElem → y5, getElem_mem → y7, drop_eq_getElem_cons → y8, drop_eq_nil_of_le → yc, getElem?_map → ye, getElem?_eq_some_iff → yf, map_cons → yg, mem_cons → yh, map_nil → yk, mem_of_getElem? → yl, mem_cons_self → ym, mem_cons_of_mem → yo, mem_append → yp, length_map → yq, take_of_length_le → yC, take_append_getElem → yE, map_append → yM, append_assoc → yP, getElem?_take → yQ, mem_singleton → yS, mem_append_left → yX
open Int renaming toNat_lt → y4, tmod_eq_emod_of_nonneg → yw, emod_nonneg → yK, emod_lt_of_pos → yN
open Bool renaming and_eq_true → y9
namespace Go.Proofs.YtbnlmgncbgaepaaGreat
open Go

section
open Go Go.RowKit Go.ChangeShapes Go.WideShapes
theorem mixed:Tryz.prog.follows .mixedOrders=true:=by kernel_rfl
theorem u8_of {n:Int} (h:(Lit.int .u8 n).wf=true):u8 n:=by
 simp only [Lit.wf,y9,decide_eq_true_eq] at h;have h1:IntKind.u8.min=0:=rfl;have h2:IntKind.u8.max=255:=rfl;exact ⟨by omega,by omega⟩
theorem FO {H:Type} {P:Program} {m:Nat}:∀ {ts us:List TypeId} {ds gs:List (DataW H)},m∈DataW.weightsEach P ts ds->ts.length=ds.length->m∈DataW.weightsEach P (ts++us) (ds++gs)
 | [],_,[],_,h,_=>by simp [DataW.weightsEach] at h
 | [],_,_ :: _,_,_,h=>by simp at h
 | _ :: _,_,[],_,_,h=>by simp at h
 | t :: ts,us,d :: ds,gs,h,hl=>by
  simp only [DataW.weightsEach,yp,List.cons_append] at h ⊢;rcases h with h | h
  ·exact .inl h
  ·exact .inr (FO h (by simpa using hl))
theorem mM {α:Type} {P:List AV->Prop} {f:α->List AV} {p:α->Prop} (h:∀ x,P x->∃ o,x=f o/\p o):∀ els:List (List AV),(∀ x∈els,P x)->∃ L:List α,els=L.map f/\∀ o∈L,p o
 | [],_=>⟨[],rfl,fun _ h=>by cases h⟩
 | x :: r,hx=>by
  obtain ⟨L,h1,h2⟩:=mM h r fun y hy=>hx y (yo _ hy)
  obtain ⟨o,h3,h4⟩:=h x (hx x ym);refine ⟨o :: L,by rw [h1,h3]; rfl,fun y hy=>?_⟩;rcases yh.1 hy with rfl | hy
  ·exact h4
  ·exact h2 y hy
theorem bytesNode:Tryz.prog.bytesOf 127=32:=by kernel_rfl
theorem bytesPart:Tryz.prog.bytesOf 165=3:=by kernel_rfl
theorem reachB:reachBytes=140737488351232:=rfl
section
variable {n:Nat} {a:List AV}
include n a
theorem tyU (h:bF Tryz.prog n 5 a):∃ x,a=[.int .u8 x]/\u8 x:=by
 cases n with
 | zero=>exact h.elim
 | succ n =>
  simp only [bF,Tryz.underlying5] at h;obtain ⟨x,rfl,hx⟩:=h;exact ⟨x,rfl,u8_of hx⟩
theorem tyPart (h:bF Tryz.prog n 165 a):∃ p:dQ,a=HD p/\p.ok:=by
 cases n with
 | zero=>exact h.elim
 | succ n =>
  simp only [bF,Tryz.underlying165,RI] at h;obtain ⟨_,_,rfl,_,h1,_,_,rfl,_,h2,_,_,rfl,_,h3,rfl⟩:=h;obtain ⟨x1,rfl,u1⟩:=tyU h1;obtain ⟨x2,rfl,u2⟩:=tyU h2;obtain ⟨x3,rfl,u3⟩:=tyU h3;exact ⟨⟨x1,x2,x3⟩,rfl,u1,u2,u3⟩
theorem tyChg (h:bF Tryz.prog n 162 a):∃ c:d3,a=aZ c/\c.ok:=by
 cases n with
 | zero=>exact h.elim
 | succ n =>
  simp only [bF,Tryz.underlying162,RI] at h;obtain ⟨_,_,rfl,_,h1,_,_,rfl,_,h2,_,_,rfl,_,h3,_,_,rfl,_,h4,rfl⟩:=h;obtain ⟨x1,rfl,u1⟩:=tyU h1;obtain ⟨x2,rfl,u2⟩:=tyU h2;obtain ⟨x3,rfl,u3⟩:=tyU h3;obtain ⟨x4,rfl,u4⟩:=tyU h4;exact ⟨⟨x1,x2,x3,x4⟩,rfl,u1,u2,u3,u4⟩
theorem tyParts (h:bF Tryz.prog n 125 a):∃ nl,∃ ps:List dQ,a=[.sl nl (ps.map HD)]/\(∀ p∈ps,p.ok)/\ps.length * 3<=140737488351232:=by
 cases n with
 | zero=>exact h.elim
 | succ n =>
  simp only [bF,Tryz.underlying125,bytesPart,reachB] at h;obtain ⟨nl,els,rfl,_,h2,_,h4⟩:=h;obtain ⟨L,rfl,hL⟩:=mM (P:=fun x=>bF Tryz.prog n 165 x) (fun x hx=>tyPart hx) els (fun x hx=>(h4 x hx).2);exact ⟨nl,L,rfl,hL,by simpa using h2⟩
theorem tyChgs (h:bF Tryz.prog n 25 a):∃ nl,∃ ps:List d3,a=[.sl nl (ps.map aZ)]/\(∀ p∈ps,p.ok)/\ps.length<=9223372036854775807:=by
 cases n with
 | zero=>exact h.elim
 | succ n =>
  simp only [bF,Tryz.underlying25] at h;obtain ⟨nl,els,rfl,h1,_,_,h4⟩:=h;obtain ⟨L,rfl,hL⟩:=mM (P:=fun x=>bF Tryz.prog n 162 x) (fun x hx=>tyChg hx) els (fun x hx=>(h4 x hx).2);exact ⟨nl,L,rfl,hL,by simpa [maxLen] using h1⟩
theorem tyNode (h:bF Tryz.prog n 127 a):∃ x:jC,a=CC x/\x.ok/\x.sized:=by
 cases n with
 | zero=>exact h.elim
 | succ n =>
  simp only [bF,Tryz.underlying127,RI] at h;obtain ⟨_,_,rfl,_,h1,_,_,rfl,_,h2,_,_,rfl,_,h3,_,_,rfl,_,h4,_,_,rfl,_,h5,rfl⟩:=h;obtain ⟨x1,rfl,u1⟩:=tyU h1;obtain ⟨x2,rfl,u2⟩:=tyU h2;obtain ⟨x3,rfl,u3⟩:=tyU h3;obtain ⟨x4,rfl,u4⟩:=tyU h4;obtain ⟨nl,ps,rfl,p1,p2⟩:=tyParts h5;exact ⟨⟨x1,x2,x3,x4,nl,ps⟩,rfl,⟨u1,u2,u3,u4,by dsimp only; omega,p1⟩,by unfold jC.sized; dsimp only; omega⟩
theorem tyDraft (h:bF Tryz.prog n 24 a):∃ nl,∃ l:List jC,a=[.sl nl (l.map CC)]/\(∀ x∈l,x.ok/\x.sized)/\l.length * 32<=140737488351232:=by
 cases n with
 | zero=>exact h.elim
 | succ n =>
  simp only [bF,Tryz.underlying24,RI] at h;obtain ⟨_,_,rfl,_,h1,rfl⟩:=h;cases n with
  | zero=>exact h1.elim
  | succ n =>
   simp only [bF,Tryz.underlying22,bytesNode,reachB] at h1;obtain ⟨nl,els,rfl,_,h2,_,h4⟩:=h1;obtain ⟨L,rfl,hL⟩:=mM (P:=fun x=>bF Tryz.prog n 127 x) (fun x hx=>tyNode hx) els (fun x hx=>(h4 x hx).2);exact ⟨nl,L,rfl,hL,by simpa using h2⟩
end
end
section
open Go Go.RowKit Go.ChangeShapes Go.WideShapes
def rootTs:List TypeId:=[79,33,31,29,132,129,137,130,146,40,37,38,170,3,2,4,9]
theorem Q9:rootTs.all (oO Tryz.prog rootTs)=true:=by kernel_rfl
theorem bytesSym:Tryz.prog.bytesOf 137=24:=by kernel_rfl
theorem bytesMem:16<=Tryz.prog.bytesOf 146:=of_decide_eq_true (by kernel_rfl)
theorem i64_of {n:Int} (h:(Lit.int .i64 n).wf=true):RP n:=by
 simp only [Lit.wf,y9,decide_eq_true_eq] at h;have h1:IntKind.i64.min=-9223372036854775808:=rfl;have h2:IntKind.i64.max=9223372036854775807:=rfl;exact ⟨by omega,by omega⟩
section
variable {n:Nat} {a:List AV}
include n a
theorem aQ (h:bF Tryz.prog n 3 a):∃ x,a=[.int .i64 x]/\RP x:=by
 cases n with
 | zero=>exact h.elim
 | succ n =>
  simp only [bF,Tryz.underlying3] at h;obtain ⟨x,rfl,hx⟩:=h;exact ⟨x,rfl,i64_of hx⟩
theorem M4 (h:bF Tryz.prog n 2 a):∃ x,a=[.int .i64 x]/\RP x:=by
 cases n with
 | zero=>exact h.elim
 | succ n =>
  simp only [bF,Tryz.underlying2] at h;obtain ⟨x,rfl,hx⟩:=h;exact ⟨x,rfl,i64_of hx⟩
theorem tyBoo (h:bF Tryz.prog n 4 a):∃ x,a=[.bool x]:=by
 cases n with
 | zero=>exact h.elim
 | succ n =>
  simp only [bF,Tryz.underlying4] at h;exact h
theorem C9 (h:bF Tryz.prog n 9 a):∃ x,a=[.str x]/\x.size<=9223372036854775807:=by
 cases n with
 | zero=>exact h.elim
 | succ n =>
  simp only [bF,Tryz.underlying9] at h;exact h
theorem tyRaw (h:bF Tryz.prog n 170 a):∃ r:Raw,a=CL r/\True:=by
 cases n with
 | zero=>exact h.elim
 | succ n =>
  simp only [bF,Tryz.underlying170,RI] at h;obtain ⟨_,_,rfl,_,h1,_,_,rfl,_,h2,rfl⟩:=h;obtain ⟨x1,rfl,_⟩:=aQ h1;obtain ⟨x2,rfl,_⟩:=C9 h2;exact ⟨⟨x1,x2⟩,rfl,trivial⟩
theorem tyRaws (h:bF Tryz.prog n 38 a):∃ nl,∃ l:List Raw,a=[.sl nl (l.map CL)]/\l.length<=9223372036854775807:=by
 cases n with
 | zero=>exact h.elim
 | succ n =>
  simp only [bF,Tryz.underlying38] at h;obtain ⟨nl,els,rfl,h1,_,_,h4⟩:=h;obtain ⟨L,rfl,_⟩:=mM (P:=fun x=>bF Tryz.prog n 170 x) (fun x hx=>tyRaw hx) els (fun x hx=>(h4 x hx).2);exact ⟨nl,L,rfl,by simpa [maxLen] using h1⟩
end
theorem tyVal:∀ (n:Nat) {a:List AV},bF Tryz.prog n 40 a->∃ v:Vl,a=lA v/\v.ok/\v.i64
 | 0,_,h=>h.elim
 | n + 1,a,h=>by
  simp only [bF,Tryz.underlying40,RI] at h;obtain ⟨_,_,rfl,_,h1,_,_,rfl,_,h2,_,_,rfl,_,h3,_,_,rfl,_,h4,_,_,rfl,_,h5,_,_,rfl,_,h6,_,_,rfl,_,h7,_,_,rfl,_,h8,rfl⟩:=h;obtain ⟨x1,rfl,_⟩:=aQ h1;obtain ⟨x2,rfl⟩:=tyBoo h2;obtain ⟨x3,rfl,u3⟩:=M4 h3;obtain ⟨x4,rfl,u4⟩:=C9 h4;obtain ⟨x5,rfl,_⟩:=aQ h5;obtain ⟨rn,rs,rfl,lr⟩:=tyRaws h8;have vals:∀ {a:List AV},bF Tryz.prog n 37 a->∃ nl,∃ l:List Vl,a=[.sl nl (l.map lA)]/\l.length<=9223372036854775807/\∀ v∈l,v.ok/\v.i64:=fun {a} h=>by
   cases n with
   | zero=>exact h.elim
   | succ m =>
    simp only [bF,Tryz.underlying37] at h;obtain ⟨nl,els,rfl,h1,_,_,h4⟩:=h;obtain ⟨L,rfl,hL⟩:=mM (P:=fun x=>bF Tryz.prog m 40 x) (fun x hx=>tyVal m hx) els (fun x hx=>(h4 x hx).2);exact ⟨nl,L,rfl,by simpa [maxLen] using h1,hL⟩
  obtain ⟨kn,ks,rfl,lk,hk⟩:=vals h6;obtain ⟨xn,xs,rfl,lx,hx⟩:=vals h7;refine ⟨.mk x1 x2 x3 x4 x5 kn ks xn xs rn rs,?_,?_,?_⟩
  ·rw [uA]; rfl
  ·rw [Vl.ok_def];exact ⟨lk,lx,lr,u4,fun v hv=>(hk v hv).1,fun v hv=>(hx v hv).1⟩
  ·rw [Vl.i64_def];exact ⟨u3,fun v hv=>(hk v hv).2,fun v hv=>(hx v hv).2⟩
section
variable {n:Nat} {a:List AV}
include n a
theorem tySym (h:bF Tryz.prog n 137 a):∃ r:aN,a=DC r/\True:=by
 cases n with
 | zero=>exact h.elim
 | succ n =>
  simp only [bF,Tryz.underlying137,RI] at h;obtain ⟨_,_,rfl,_,h1,_,_,rfl,_,h2,rfl⟩:=h;obtain ⟨x1,rfl,_⟩:=aQ h1;obtain ⟨x2,rfl,_⟩:=C9 h2;exact ⟨⟨x1,x2⟩,rfl,trivial⟩
theorem tyMem (h:bF Tryz.prog n 146 a):∃ m:SB,a=zA m/\m.ok/\m.dflt.i64:=by
 cases n with
 | zero=>exact h.elim
 | succ n =>
  simp only [bF,Tryz.underlying146,RI] at h;obtain ⟨_,_,rfl,_,h1,_,_,rfl,_,h2,_,_,rfl,_,h3,_,_,rfl,_,h4,_,_,rfl,_,h5,_,_,rfl,_,h6,rfl⟩:=h;obtain ⟨x1,rfl,_⟩:=aQ h1;obtain ⟨x2,rfl,u2⟩:=C9 h2;obtain ⟨x3,rfl,_⟩:=aQ h3;obtain ⟨x4,rfl⟩:=tyBoo h4;obtain ⟨x5,rfl⟩:=tyBoo h5;obtain ⟨v,rfl,h6,h7⟩:=tyVal _ h6;exact ⟨⟨x1,x2,x3,x4,x5,v⟩,by rw [uA]; rfl,⟨h6,u2⟩,h7⟩
theorem tySyms (h:bF Tryz.prog n 129 a):∃ nl,∃ l:List aN,a=[AV.sl nl (l.map DC)]/\l.length * 24<=reachBytes:=by
 cases n with
 | zero=>exact h.elim
 | succ m =>
  simp only [bF,Tryz.underlying129,bytesSym] at h;obtain ⟨nl,els,e,_,h2,_,h4⟩:=h;obtain ⟨L,rfl,_⟩:=mM (P:=fun x=>bF Tryz.prog m 137 x) (fun x hx=>tySym hx) els (fun x hx=>(h4 x hx).2);exact ⟨nl,L,e,by simpa using h2⟩
theorem tyMems (h:bF Tryz.prog n 130 a):∃ nl,∃ l:List SB,a=[AV.sl nl (l.map zA)]/\l.length * 16<=reachBytes/\∀ m∈l,m.ok/\m.dflt.i64:=by
 cases n with
 | zero=>exact h.elim
 | succ m =>
  simp only [bF,Tryz.underlying130] at h;obtain ⟨nl,els,e,_,h2,_,h4⟩:=h;obtain ⟨L,rfl,hL⟩:=mM (P:=fun x=>bF Tryz.prog m 146 x) (fun x hx=>tyMem hx) els (fun x hx=>(h4 x hx).2);refine ⟨nl,L,e,?_,hL⟩;have:=Nat.mul_le_mul_left L.length bytesMem;simp only [yq] at h2;omega
theorem tyTyp (h:bF Tryz.prog n 132 a):∃ t:sA,a=qA t/\t.fine/\t.d64:=by
 cases n with
 | zero=>exact h.elim
 | succ n =>
  simp only [bF,Tryz.underlying132,RI] at h;obtain ⟨_,_,rfl,_,h1,_,_,rfl,_,h2,_,_,rfl,_,h3,_,_,rfl,_,h4,_,_,rfl,_,h5,_,_,rfl,_,h6,_,_,rfl,_,h7,_,_,rfl,_,h8,_,_,rfl,_,h9,_,_,rfl,_,sq,rfl⟩:=h;obtain ⟨x1,rfl,_⟩:=aQ h1;obtain ⟨x2,rfl,u2⟩:=C9 h2;obtain ⟨x3,rfl,_⟩:=M4 h3;obtain ⟨x4,rfl,_⟩:=M4 h4;obtain ⟨x5,rfl,_⟩:=aQ h5;obtain ⟨x8,rfl,_⟩:=aQ h8;obtain ⟨x9,rfl,_⟩:=aQ h9;obtain ⟨x10,rfl⟩:=tyBoo sq;obtain ⟨sn,sy,rfl,l6⟩:=tySyms h6;obtain ⟨mn,me,rfl,l7,hm⟩:=tyMems h7;have hr:=reachB;refine ⟨⟨x1,x2,x3,x4,x5,sn,sy,mn,me,x8,x9,x10⟩,rfl,⟨⟨?_,?_,fun m h=>(hm m h).1⟩,?_,?_⟩,fun m h=>(hm m h).2⟩
  all_goals dsimp only
  all_goals omega
theorem tySch (h:bF Tryz.prog n 31 a):∃ s:DH,a=TA s/\s.fine/\s.d64:=by
 cases n with
 | zero=>exact h.elim
 | succ n =>
  simp only [bF,Tryz.underlying31,RI] at h;obtain ⟨_,_,rfl,_,h1,rfl⟩:=h;cases n with
  | zero=>exact h1.elim
  | succ m =>
   simp only [bF,Tryz.underlying29] at h1;obtain ⟨nl,els,rfl,h1,_,_,h4⟩:=h1;obtain ⟨L,rfl,hL⟩:=mM (P:=fun x=>bF Tryz.prog m 132 x) (fun x hx=>tyTyp hx) els (fun x hx=>(h4 x hx).2);exact ⟨⟨nl,L⟩,rfl,⟨by simpa [maxLen] using h1,fun t ht=>(hL t ht).1⟩,fun t ht=>(hL t ht).2⟩
theorem tyRoot (h:bF Tryz.prog n 33 a):∃ x:DH × Int,a=nL x.1 x.2/\x.1.fine/\x.1.d64:=by
 cases n with
 | zero=>exact h.elim
 | succ n =>
  simp only [bF,Tryz.underlying33,RI] at h;obtain ⟨_,_,rfl,_,h1,_,_,rfl,_,h2,rfl⟩:=h;obtain ⟨s,rfl,h3⟩:=tySch h1;obtain ⟨x,rfl,_⟩:=aQ h2;exact ⟨(s,x),rfl,h3⟩
end
theorem rootsTy {a:AV} (h:ParT Tryz.prog 79 a):∃ nl,∃ l:List (DH × Int),a=.sl nl (l.map fun x=>nL x.1 x.2)/\l.length<=9223372036854775807/\∀ x∈l,x.1.fine/\x.1.d64:=by
 obtain ⟨n,⟨hw,_⟩ | ⟨_,h⟩⟩:=h
 ·have sc:TM Tryz.prog 79=false:=by kernel_rfl
  rw [sc] at hw;cases hw
 ·cases n with
  | zero=>exact h.elim
  | succ n =>
   simp only [bF,Tryz.underlying79] at h;obtain ⟨nl,els,e,h1,_,_,h4⟩:=h;injection e with e;obtain ⟨L,rfl,hL⟩:=mM (P:=fun x=>bF Tryz.prog n 33 x) (fun x hx=>tyRoot hx) els (fun x hx=>(h4 x hx).2);exact ⟨nl,L,e,by simpa [maxLen] using h1,hL⟩
end
abbrev Rt:=DH × Int
def wH (x:Rt):List AV:=nL x.1 x.2
def Rt.ok (x:Rt):Prop:=SndE x.1 0/\0<=x.2/\x.2<x.1.types.length
theorem hvalid_ev (b:Bool) (L:List Rt) (hl:L.length<=8) (hL:∀ x∈L,x.ok):fA 103 [.sl b (L.map wH)] (.int .i64 0):=by
 refine rA (c:=sE) rfl rfl ?_;have h8:¬ (8:Int)<L.length:=by omega
 simp [sE,-V,-y4,-y3,y0,h8];refine gA L.length (fun i s=>(s.env 9).v=.sl b (L.map wH)/\(s.env 10).v=.int .i64 L.length/\(s.env 11).v=.int .i64 i)
  (fun e s=>e=.exit 0) (fun i hi s k h ih hk=>?_) _ _ ?_ (fun e s h=>?_)
 ·obtain ⟨e9,e10,e11⟩:=h;refine tA ?_;by_cases fa:i<L.length
  ·have ga:(i:Int)<L.length:=by omega
   have g1:(L.map wH)[i]?=some (wH L[i]):=by simp [fa]
   have hw:=GA (i:=i);obtain ⟨⟨hx,_⟩,h0,h1⟩:=hL L[i] (y7 _);generalize L[i]=x at *
   obtain ⟨S,t⟩:=x;have df:¬ t<0:=by dsimp only at h0; omega
   have rj:¬ (S.types.length:Int)<=t:=by dsimp only at h1; omega
   simp only [fA,wH,nL,TA] at g1 hx;simp [mC,-V,-y4,-y3,y0,e9,e10,e11,ga,g1,hx,hw,df,rj];refine ih fa _ ⟨?_,?_,?_⟩
   all_goals simp [e9,e10]
  ·have ga:¬ (i:Int)<L.length:=by omega
   simp [mC,-V,-y4,-y3,y0,e10,e11,ga];exact hk _ _ rfl
 ·simp
 ·subst h;simp [-V,-y4,-y3,y0]
theorem herror_ev (b:Bool) (L:List Rt) (hl:L.length<=8) (hL:∀ x∈L,x.ok):fA 58 [.sl b (L.map wH)] (.int .i64 0):=by
 refine rA (c:=jF) rfl rfl ?_;have h8:¬ (8:Int)<L.length:=by omega
 simp [jF,-V,-y4,-y3,y0,h8];refine gA L.length (fun i s=>(s.env 0).v=.sl b (L.map wH)/\(s.env 3).v=.int .i64 i)
  (fun e s=>e=.exit 0) (fun i hi s k h ih hk=>?_) _ _ ?_ (fun e s h=>?_)
 ·obtain ⟨e0,e3⟩:=h;refine tA ?_;by_cases fa:i<L.length
  ·have ga:(i:Int)<L.length:=by omega
   have g1:(L.map wH)[i]?=some (wH L[i]):=by simp [fa]
   have hw:=GA (i:=i);obtain ⟨⟨_,hx⟩,h0,h1⟩:=hL L[i] (y7 _);generalize L[i]=x at *
   obtain ⟨S,t⟩:=x;have df:¬ t<0:=by dsimp only at h0; omega
   have rj:¬ (S.types.length:Int)<=t:=by dsimp only at h1; omega
   simp only [fA,wH,nL,TA] at g1 hx;simp [gD,-V,-y4,-y3,y0,e0,e3,ga,g1,hx,hw,df,rj];refine ih fa _ ⟨?_,?_⟩
   all_goals simp [e0]
  ·have ga:¬ (i:Int)<L.length:=by omega
   simp [gD,-V,-y4,-y3,y0,e0,e3,ga];exact hk _ _ rfl
 ·simp
 ·subst h;simp [-V,-y4,-y3,y0]


section
def rtErr (e:DH->Int) (x:Rt):Int:=if e x.1=0 then if x.2<0 then 4 else if (x.1.types.length:Int)<=x.2 then 4 else 0 else e x.1
def uN (e:DH->Int):List Rt->Int
 | []=>0
 | x :: r=>if rtErr e x=0 then uN e r else rtErr e x
def hErr (e:DH->Int) (L:List Rt):Int:=if 8<L.length then 3 else uN e L
theorem hvalid_any (b:Bool) (L:List Rt) {e:DH->Int} (hL:∀ x∈L,SndE x.1 (e x.1)):fA 103 [.sl b (L.map wH)] (.int .i64 (hErr e L)):=by
 refine rA (c:=sE) rfl rfl ?_;unfold hErr;by_cases h8:8<L.length
 ·have zx:(8:Int)<L.length:=by omega
  simp [sE,-V,-y4,-y3,y0,zx,h8]
 have zx:¬ (8:Int)<L.length:=by omega
 simp [sE,-V,-y4,-y3,y0,zx,h8];refine gA L.length (fun i s=>(s.env 9).v=.sl b (L.map wH)/\(s.env 10).v=.int .i64 L.length/\(s.env 11).v=.int .i64 i/\uN e (L.drop i)=uN e L)
  (fun x s=>(x=.exit 0/\uN e L=0)\/(x=.ret/\(s.env 2).v=.int .i64 (uN e L))) (fun i hi s k h ih hk=>?_) _ _ ?_ (fun e s h=>?_)
 ·obtain ⟨e9,e10,e11,hd⟩:=h;refine tA ?_;by_cases fa:i<L.length
  ·have ga:(i:Int)<L.length:=by omega
   have g1:(L.map wH)[i]?=some (wH L[i]):=by simp [fa]
   have hw:=GA (i:=i);obtain ⟨hx,_⟩:=hL L[i] (y7 _);rw [y8 fa,uN,rtErr] at hd;generalize L[i]=x at *
   obtain ⟨S,t⟩:=x;dsimp only at hx hd;generalize e S=c at *
   simp only [fA,wH,nL,TA] at g1 hx;by_cases c0:c=0
   ·subst c0;by_cases h0:t<0
    ·simp [h0] at hd;simp [mC,-V,-y4,-y3,y0,e9,e10,e11,ga,g1,hx,h0];exact hk _ _ (.inr ⟨rfl,by simp [hd]⟩)
    ·by_cases h1:(S.types.length:Int)<=t
     ·simp [h0,h1] at hd;simp [mC,-V,-y4,-y3,y0,e9,e10,e11,ga,g1,hx,h0,h1];exact hk _ _ (.inr ⟨rfl,by simp [hd]⟩)
     ·simp [h0,h1] at hd;simp [mC,-V,-y4,-y3,y0,e9,e10,e11,ga,g1,hx,h0,h1,hw];refine ih fa _ ⟨?_,?_,?_,hd⟩
      all_goals simp [e9,e10]
   ·simp [c0] at hd;simp [mC,-V,-y4,-y3,y0,e9,e10,e11,ga,g1,hx,c0];exact hk _ _ (.inr ⟨rfl,by simp [hd]⟩)
  ·have ga:¬ (i:Int)<L.length:=by omega
   rw [yc (by omega),uN] at hd;simp [mC,-V,-y4,-y3,y0,e10,e11,ga];exact hk _ _ (.inl ⟨rfl,hd.symm⟩)
 ·simp
 ·rcases h with ⟨rfl,h1⟩ | ⟨rfl,h1⟩ <;> simp [-V,-y4,-y3,y0,h1]
theorem herror_any (b:Bool) (L:List Rt) {e:DH->Int} (hL:∀ x∈L,SndE x.1 (e x.1)):fA 58 [.sl b (L.map wH)] (.int .i64 (hErr e L)):=by
 refine rA (c:=jF) rfl rfl ?_;unfold hErr;by_cases h8:8<L.length
 ·have zx:(8:Int)<L.length:=by omega
  simp [jF,-V,-y4,-y3,y0,zx,h8]
 have zx:¬ (8:Int)<L.length:=by omega
 simp [jF,-V,-y4,-y3,y0,zx,h8];refine gA L.length (fun i s=>(s.env 0).v=.sl b (L.map wH)/\(s.env 3).v=.int .i64 i/\uN e (L.drop i)=uN e L)
  (fun x s=>(x=.exit 0/\uN e L=0)\/(x=.ret/\(s.env 2).v=.int .i64 (uN e L))) (fun i hi s k h ih hk=>?_) _ _ ?_ (fun e s h=>?_)
 ·obtain ⟨e0,e3,hd⟩:=h;refine tA ?_;by_cases fa:i<L.length
  ·have ga:(i:Int)<L.length:=by omega
   have g1:(L.map wH)[i]?=some (wH L[i]):=by simp [fa]
   have hw:=GA (i:=i);obtain ⟨_,hx⟩:=hL L[i] (y7 _);rw [y8 fa,uN,rtErr] at hd;generalize L[i]=x at *
   obtain ⟨S,t⟩:=x;dsimp only at hx hd;generalize e S=c at *
   simp only [fA,wH,nL,TA] at g1 hx;by_cases c0:c=0
   ·subst c0;by_cases h0:t<0
    ·simp [h0] at hd;simp [gD,-V,-y4,-y3,y0,e0,e3,ga,g1,hx,h0];exact hk _ _ (.inr ⟨rfl,by simp [hd]⟩)
    ·by_cases h1:(S.types.length:Int)<=t
     ·simp [h0,h1] at hd;simp [gD,-V,-y4,-y3,y0,e0,e3,ga,g1,hx,h0,h1];exact hk _ _ (.inr ⟨rfl,by simp [hd]⟩)
     ·simp [h0,h1] at hd;simp [gD,-V,-y4,-y3,y0,e0,e3,ga,g1,hx,h0,h1,hw];refine ih fa _ ⟨?_,?_,hd⟩
      all_goals simp [e0]
   ·simp [c0] at hd;simp [gD,-V,-y4,-y3,y0,e0,e3,ga,g1,hx,c0];exact hk _ _ (.inr ⟨rfl,by simp [hd]⟩)
  ·have ga:¬ (i:Int)<L.length:=by omega
   rw [yc (by omega),uN] at hd;simp [gD,-V,-y4,-y3,y0,e0,e3,ga];exact hk _ _ (.inl ⟨rfl,hd.symm⟩)
 ·simp
 ·rcases h with ⟨rfl,h1⟩ | ⟨rfl,h1⟩ <;> simp [-V,-y4,-y3,y0,h1]
section
variable (b:Bool) (L:List Rt) {c:Int} (hv:fA 103 [.sl b (L.map wH)] (.int .i64 c)) (c0:¬ c=0)
include hv c0
theorem dO:fA 46 [.sl b (L.map wH)] (.tup [.sl true [],.int .i64 c]):=by
 refine rA (c:=pH) rfl rfl ?_;simp only [fA] at hv;simp [pH,-V,-y4,-y3,y0,hv,c0]
theorem I3:fA 50 [.sl b (L.map wH)] (.tup [.bool false,.int .i64 c]):=by
 refine rA (c:=XF) rfl rfl ?_;have hm:=dO b L hv c0;simp only [fA] at hm;simp [XF,-V,-y4,-y3,y0,hm];refine gA 0 (fun _ s=>(s.env 14).v=.int .i64 0/\(s.env 15).v=.int .i64 0/\(s.env 5).v=.int .i64 c) (fun e s=>e=.exit 0/\(s.env 5).v=.int .i64 c) (fun i hi s k h ih hk=>?_) _ _ (by simp) (fun e s h=>?_)
 ·refine tA ?_;simp [JJ,-V,-y4,-y3,y0,h.1,h.2.1];exact hk _ _ ⟨rfl,by simpa using h.2.2⟩
 ·obtain ⟨rfl,h⟩:=h;simp [-V,-y4,-y3,y0,h,c0]
theorem d8:fA 52 [.sl b (L.map wH)] (.tup [.bool false,.int .i64 c]):=by
 refine rA (c:=TG) rfl rfl ?_;have hm:=dO b L hv c0;simp only [fA] at hm;simp [TG,-V,-y4,-y3,y0,hm];refine gA 0 (fun _ s=>(s.env 14).v=.int .i64 0/\(s.env 15).v=.int .i64 0/\(s.env 5).v=.int .i64 c) (fun e s=>e=.exit 0/\(s.env 5).v=.int .i64 c) (fun i hi s k h ih hk=>?_) _ _ (by simp) (fun e s h=>?_)
 ·refine tA ?_;simp [BK,-V,-y4,-y3,y0,h.1,h.2.1];exact hk _ _ ⟨rfl,by simpa using h.2.2⟩
 ·obtain ⟨rfl,h⟩:=h;simp [-V,-y4,-y3,y0,h,c0]
theorem gaps_err:fA 54 [.sl b (L.map wH)] (.tup [.sl true [],.int .i64 c]):=by
 refine rA (c:=BI) rfl rfl ?_;have hm:=dO b L hv c0;simp only [fA] at hm;simp [BI,-V,-y4,-y3,y0,hm];refine gA 0 (fun _ s=>(s.env 15).v=.int .i64 0/\(s.env 16).v=.int .i64 0/\(s.env 5).v=.int .i64 c/\(s.env 6).v=.sl true []) (fun e s=>e=.exit 0/\(s.env 5).v=.int .i64 c/\(s.env 6).v=.sl true []) (fun i hi s k h ih hk=>?_) _ _ (by simp) (fun e s h=>?_)
 ·refine tA ?_;simp [ZM,-V,-y4,-y3,y0,h.1,h.2.1];exact hk _ _ ⟨rfl,by simpa using h.2.2⟩
 ·obtain ⟨rfl,h⟩:=h;simp [-V,-y4,-y3,y0,h,c0]
end
theorem KY {f:Nat} {args:List AV} {S:Option AV} {r:RV} (e:¬ f=48) (h:cE dA eA f args S=some r):cE AZ (cE dA eA) f args S=some r:=by
 have hT:AZ f=none:=by unfold AZ; rw [if_neg e]
 exact pF.2 ⟨0,by unfold jD; rw [hT]; exact h⟩
theorem l9 (b:Bool) (L:List Rt) {c:Int} (hv:fA 103 [.sl b (L.map wH)] (.int .i64 c)) (c0:¬ c=0):cE AZ (cE dA eA) 48 [.sl b (L.map wH)] none=some (.tup [.int .i64 0,.str (ByteArray.mk #[]),.int .i64 0,.int .i64 c],none):=by
 refine qM AD rfl rfl ?_ (by rfl);have hv:=KY (by decide) hv;simp [AD,-V,-y4,-y3,y0,hv,c0]
noncomputable def DR:iB:=fun f args S=>if f=48 then cE AZ (cE dA eA) f args S else EP f args S
theorem G0 {O:rH} (f:Nat) (args:List AV) (S:Option AV) (r:RV) (h:DR f args S=some r):aD Tryz.prog O f args S r:=by
 unfold DR at h;split at h
 ·exact UN z4 ruT_ok (fun _ _ _ _ h=>UN z4 mW XT h) h
 ·exact hisExt_ok _ _ _ _ h
theorem IS (f:Nat) (args:List AV) (S:Option AV) (r:RV) (h:EP f args S=some r):DR f args S=some r:=by
 unfold DR;by_cases e:f=48
 ·subst e;rw [if_pos rfl];unfold EP at h;split at h
  ·rename_i hc;simp only [y9] at hc;obtain ⟨_,h2,h3⟩:=hc;injection h with h;subst h;rw [AV.beqL_eq _ _ h2,AV.beqO_eq _ _ h3];exact T2
  ·rw [lU] at h;cases h
 ·rw [if_neg e];exact h
abbrev evR (f:Nat) (args:List AV) (v:AV):Prop:=cE dA DR f args none=some (v,none)
theorem ev_R {f:Nat} {args:List AV} {v:AV} (h:cE dA eA f args none=some (v,none)):evR f args v:=bM IS (ev_G h)
theorem reused_err (b:Bool) (L:List Rt) {c:Int} (hv:fA 103 [.sl b (L.map wH)] (.int .i64 c)) (c0:¬ c=0):evR 48 [.sl b (L.map wH)] (.tup [.int .i64 0,.str (ByteArray.mk #[]),.int .i64 0,.int .i64 c]):=by
 have hT:dA 48=none:=by kernel_rfl
 refine pF.2 ⟨0,?_⟩;unfold jD;rw [hT];dsimp only;unfold DR;rw [if_pos rfl];exact l9 b L hv c0
theorem fewF_ev (x:Rt) (hx:x.1.ok):fA 57 [.agg (wH x)] (.bool (!fewP x.1)):=by
 refine rA (c:=KD) rfl rfl ?_;have hf:=few_ev x.1 hx;simp only [fA] at hf;obtain ⟨S,t⟩:=x;simp only [TA] at hf;generalize fewP S=z at *
 cases z <;> simp [KD,-V,-y4,-y3,y0,wH,nL,TA,hf]
theorem Z3 (F:Nat) (l:List Rt) (p:Rt->Bool) (hl:l.length<=9223372036854775807) (hF:∀ x∈l,fA F [.agg (wH x)] (.bool (p x))) (b:Bool):fA 109 [.sl b (l.map wH),.fn F []] (.int .i64 (KA p l)):=by
 refine rA (c:=kD) rfl rfl ?_;have le:∀ (s:pA) (cl:Cl),nD s cl []=some []:=fun _ _=>rfl
 simp [kD,-V,-y4,-y3,y0];refine gA l.length (fun i s=>(s.env 0).v=.sl b (l.map wH)/\(s.env 1).v=.fn F []/\(s.env 7).v=.int .i64 l.length/\(s.env 8).v=.int .i64 i/\KA p l=(if KA p (l.drop i)=-1 then -1 else KA p (l.drop i) + i))
  (fun e s=>(e=.exit 0/\KA p l=-1)\/(e=.ret/\(s.env 4).v=.int .i64 (KA p l))) (fun i hi s k h ih hk=>?_) _ _ ?_ (fun e s h=>?_)
 ·obtain ⟨e0,e1,e7,e8,hs⟩:=h;refine tA ?_;by_cases fa:i<l.length
  ·have ga:(i:Int)<l.length:=by omega
   have g1:(l.map wH)[i]?=some (wH l[i]):=by simp [fa]
   have hw:=GA (i:=i);have hx:=hF l[i] (y7 _);rw [y8 fa] at hs;generalize l[i]=x at *
   simp only [fA,wH,nL] at g1 hx;cases hp:p x with
   | true =>
    rw [hp] at hx;simp [SC,-V,-y4,-y3,y0,e0,e1,e7,e8,ga,g1,le,hx];refine hk _ _ (.inr ⟨rfl,?_⟩);simp [hs,KA,hp]
   | false =>
    rw [hp] at hx;simp [SC,-V,-y4,-y3,y0,e0,e1,e7,e8,ga,g1,le,hx,hw];refine ih fa _ ⟨?_,?_,?_,?_,?_⟩
    ·simp [e0]
    ·simp [e1]
    ·simp [e7]
    ·simp
    ·rw [hs,mG p x _ hp];have:=XC p (l.drop (i + 1));by_cases h1:KA p (l.drop (i + 1))=-1
     ·simp [h1]
     ·have h2:¬ KA p (l.drop (i + 1)) + 1=-1:=by omega
      rw [if_neg h1,if_neg h2,if_neg h1];omega
  ·have ga:¬ (i:Int)<l.length:=by omega
   simp [SC,-V,-y4,-y3,y0,e7,e8,ga];rw [yc (by omega)] at hs;exact hk _ _ (.inl ⟨rfl,hs⟩)
 ·have:=XC p l;by_cases h1:KA p l=-1 <;> simp [h1]
 ·rcases h with ⟨rfl,h1⟩ | ⟨rfl,h1⟩ <;> simp [-V,-y4,-y3,y0,h1]
theorem M7 (F:Nat) (l:List Rt) (p:Rt->Bool) (hl:l.length<=9223372036854775807) (hF:∀ x∈l,fA F [.agg (wH x)] (.bool (p x))) (b:Bool):fA 56 [.sl b (l.map wH),.fn F []] (.bool (l.any p)):=by
 refine rA (c:=AC) rfl rfl ?_;have hi:=Z3 F l p hl hF b;have ha:=ON p l;rw [<- ha];simp only [fA] at hi;simp [AC,-V,-y4,-y3,y0,hi]
theorem herrors_ev (nl:Bool) (L:List Rt) (hl:L.length<=9223372036854775807) (hf:∀ x∈L,x.1.fine/\x.1.d64):evR 14 [.sl nl (L.map wH)] (.bool true):=by
 refine qM DB rfl rfl ?_ (by rfl);have nv:=bM IS LW;have hc:=ev_R (M7 57 L (fun x=>!fewP x.1) hl (fun x hx=>fewF_ev x ⟨(hf x hx).1.1,fun t ht=>((hf x hx).1.2 t ht).1⟩) nl);obtain ⟨e,he⟩:∃ e:DH->Int,∀ s:DH,s.fine->s.d64->SndE s (e s):=by
  have h:∀ s:DH,∃ c:Int,s.fine->s.d64->SndE s c:=fun s=>by
   by_cases h:s.fine/\s.d64
   ·obtain ⟨c,hc⟩:=both_sound s h.1 h.2;exact ⟨c,fun _ _=>hc⟩
   ·exact ⟨0,fun h1 h2=>absurd ⟨h1,h2⟩ h⟩
  exact ⟨fun s=>(h s).choose,fun s=>(h s).choose_spec⟩
 have hL:∀ x∈L,SndE x.1 (e x.1):=fun x hx=>he _ (hf x hx).1 (hf x hx).2
 have hr:=ev_R (herror_any nl L hL);have hv:=hvalid_any nl L hL;generalize hErr e L=c at *
 generalize (L.any fun x=>!fewP x.1)=z at *
 simp only [evR] at nv hc hr;by_cases h:(10:Int)<L.length
 ·simp [DB,-V,-y4,-y3,y0,nv,h]
 cases z
 ·by_cases c0:c=0
  ·subst c0;simp [DB,-V,-y4,-y3,y0,nv,h,hc,hr]
  ·have h1:=ev_R (dO nl L hv c0);have h2:=reused_err nl L hv c0;have h3:=ev_R (I3 nl L hv c0);have h4:=ev_R (d8 nl L hv c0);have h5:=ev_R (gaps_err nl L hv c0);simp only [evR] at h1 h2 h3 h4 h5;have w0:IntKind.i64.wrap 0=0:=by decide
   have z0:(ByteArray.mk #[]).size=0:=rfl;simp [DB,-V,-y4,-y3,y0,nv,h,hc,hr,c0,h1,h2,h3,h4,h5,w0,z0]
 ·simp [DB,-V,-y4,-y3,y0,nv,h,hc]
end
abbrev Chs:=Bool × List d3
def chsC (c:Chs):List AV:=[.sl c.1 (c.2.map aZ)]
def WV (dn:Bool) (l:List jC) (cn:Bool) (css:List Chs) (T:Int):List AV:=[.sl dn (l.map CC),.sl cn (css.map chsC),.int .u8 T]
def RtD (x:Rt):Prop:=∃ l,oks l/\x.1=⟨false,RA l⟩/\0<=x.2/\x.2<(RA l).length
structure OhI (dn:Bool) (l:List jC) (cn:Bool) (css:List Chs) (T t:Int) (n4 n8 i:Nat) (L:List Rt) (s:pA):Prop where
 e1:(s.env 1).v=.ptr 1 1 0
 m1:s.mem 1 1=some [⟨.sl dn (l.map CC),.no⟩,⟨.sl cn (css.map chsC),.no⟩,⟨.int .u8 T,.no⟩]
 e4:(s.env 4).v=.ptr 4 n4 0
 m4:∃ c,s.mem 4 n4=some [c]
 e8:(s.env 8).v=.ptr 8 n8 0
 m8:∃ (d2:Bool) (l2:List jC),s.mem 8 n8=some [⟨.sl d2 (l2.map CC),.no⟩]/\(∀ x∈l2,x.ok/\x.sized)/\l2.length=l.length
 e6:(s.env 6).v=.int .i64 t
 e7:(s.env 7).v=.sl false (L.map wH)
 a7:(s.env 7).a=.ex\/(s.env 7).a=.own 70 33
 e9:(s.env 9).v=.int .i64 i
theorem els_rt (L:List Rt):lB 2 (L.map wH)=true:=lC _ _ _ fun _=>rfl
def dS (P:RV->Prop) (o:Option RV):Prop:=∃ r,P r/\o=some r
theorem iO {P:RV->Prop} {b:C} {s:pA} {k:Ex->pA->Option RV} (h:dS P (b.run (cE dA eA) (BJ dA eA) s (HJ (GG dA eA) b k))):dS P (GG dA eA b s k):=by
 obtain ⟨r,h1,h2⟩:=h;exact ⟨r,h1,tA h2⟩
def badR:AV:=.tup [.sl true [],.bool false]
theorem of24_in {dn cn:Bool} {l:List jC} {css:List Chs} {T t:Int} {n4 n8:Nat} (hl:1<=l.length/\l.length<=5) (h0:0<=t) (h1:t<l.length) (aj:css.length<=4) (hch:∀ c∈css,(∀ x∈c.2,x.ok)/\c.2.length<=9223372036854775807) (s:pA) (L:List Rt) (hI:OhI dn l cn css T t n4 n8 0 L s) (hL:L.length=1) (hR:∀ x∈L,RtD x) (k:Ex->pA->Option RV) (P:RV->Prop)
  (hk:∀ (L':List Rt) (s':pA),L'.length=css.length + 1->(∀ x∈L',RtD x)->(s'.env 7).v=.sl false (L'.map wH)->dS P (k (.exit 0) s'))
  (hr:∀ s':pA,(s'.env 2).v=.sl true []->(s'.env 3).v=.bool false->dS P (k .ret s')):dS P (GG dA eA kF s k):=by
 have main:∀ m i,i + m=css.length->∀ s L,OhI dn l cn css T t n4 n8 i L s->L.length=i + 1->(∀ x∈L,RtD x)->dS P (GG dA eA kF s k):=by
  intro m
  induction m with
  | zero =>
   intro i hi s L hI hL hR;obtain ⟨e1,m1,e4,m4,e8,m8,e6,e7,a7,e9⟩:=hI;have hic:i=css.length:=by omega
   subst hic;refine iO ?_;simp [kF,-V,-y4,-y3,y0,e1,m1,e9];exact hk L _ hL hR (by simp [e7])
  | succ m ih =>
   intro i hi s L hI hL hR;obtain ⟨e1,m1,e4,⟨c4,m4⟩,e8,⟨d2,l2,m8,up,xj⟩,e6,e7,a7,e9⟩:=hI;have fa:i<css.length:=by omega
   have ga:(i:Int)<css.length:=by omega
   have g1:(css.map chsC)[i]?=some (chsC css[i]):=by simp [fa]
   have sf:=hch css[i] (y7 _);have hw:=GA (i:=i);generalize css[i]=c at *
   simp only [chsC] at g1;by_cases h3:3<c.2.length
   ·have h3':(3:Int)<c.2.length:=by omega
    refine iO ?_;simp [kF,-V,-y4,-y3,y0,e1,m1,e9,ga,g1,h3',h3];exact hr _ (by simp) (by simp)
   ·obtain ⟨r1,⟨l3,hl3,hl3l,rfl⟩,tv⟩:=J7 (dn:=d2) (cn:=c.1) up (by omega) sf.1 sf.2;rcases of07_ev (dn:=false) (l:=l3) (fun x hx=>(hl3 x hx).1) with ⟨na,ho⟩ | ⟨_,ho⟩
    ·have h3':¬ (3:Int)<c.2.length:=by omega
     have ja:kB 32 (i + 1 + 1)=true:=by rw [PA]; omega
     have q1:=els_rt L;simp only [fA,FF] at ho tv;have sb:∀ x∈L++[((⟨false,RA l3⟩,t):Rt)],RtD x:=fun x hx=>by
      rcases yp.1 hx with hx | hx
      ·exact hR x hx
      ·rw [yS.1 hx];exact ⟨l3,na,rfl,h0,by simp [RA]; omega⟩
     have hmap:(L++[((⟨false,RA l3⟩,t):Rt)]).map wH=L.map wH++[[.sl false ((RA l3).map qA),.int .i64 t]]:=by simp [wH,nL]
     have pp:=fun s' h=>ih (i + 1) (by omega) s' (L++[((⟨false,RA l3⟩,t):Rt)]) h (by simp [hL]) sb
     generalize RA l3=S3 at *
     refine iO ?_;rcases a7 with a7 | a7
     all_goals
      simp [kF,-V,-y4,-y3,y0,e1,m1,e4,m4,e6,e7,a7,e8,m8,e9,ga,g1,h3',tv,ho,hL,ja,q1,OC,hw];refine pp _ ⟨?_,?_,?_,⟨⟨.sl false (S3.map qA),.no⟩,?_⟩,?_,⟨false,l3,?_,hl3,by omega⟩,?_,?_,.inr ?_,?_⟩
      all_goals first | (simp [e1,m1,e4,m4,e6,e8,m8,wH,nL]; done) | (simp; rfl)
    ·have h3':¬ (3:Int)<c.2.length:=by omega
     simp only [fA,FF] at ho tv;refine iO ?_;simp [kF,-V,-y4,-y3,y0,e1,m1,e4,m4,e8,m8,e9,ga,g1,h3',tv,ho];exact hr _ (by simp) (by simp)
 exact main css.length 0 (by omega) s L hI hL hR
theorem gives_call {P:RV->Prop} {f:Nat} {c:qB} {args:List AV} (hT:dA f=some c) (hl:args.length=c.np) (hm:OI args=false) (h:dS P (c.code.run (cE dA eA) (BJ dA eA) (pA.init args none) (uO c none))):dS P (cE dA eA f args none):=by
 obtain ⟨r,h1,h2⟩:=h;exact ⟨r,h1,rA hT hl h2 hm⟩
structure HistOk (l:List jC) (css:List Chs) (T:Int):Prop where
 nds:∀ x∈l,x.ok/\x.sized
 chs:∀ c∈css,(∀ x∈c.2,x.ok)/\c.2.length<=9223372036854775807
 t:u8 T
def HistR (r:RV):Prop:=r=(badR,none)\/∃ L:List Rt,1<=L.length/\L.length<=5/\(∀ x∈L,RtD x)/\r=(.tup [.sl false (L.map wH),.bool true],none)
theorem of24_ev {dn cn:Bool} {l:List jC} {css:List Chs} {T:Int} (h:HistOk l css T):dS HistR (cE dA eA 44 [.agg (WV dn l cn css T)] none):=by
 refine gives_call (c:=aK) rfl rfl rfl ?_;obtain ⟨t0,t1⟩:=h.t;have hwT:IntKind.i64.wrap T=T:=IntWalk.i64_in _ (by omega);rcases of07_ev (dn:=dn) (l:=l) (fun x hx=>(h.nds x hx).1) with ⟨na,ho⟩ | ⟨_,ho⟩
 ·simp only [fA,FF] at ho;by_cases h4:4<css.length
  ·have h4':(4:Int)<css.length:=by omega
   simp [aK,WV,-V,-y4,-y3,y0,ho,h4,h4'];exact ⟨_,.inl rfl,rfl⟩
  ·have h4':¬ (4:Int)<css.length:=by omega
   have hS:(RA l).length=l.length:=by simp [RA]
   have p1:=na.1;have p2:=na.2.1;have a0:=yK T (b:=((RA l).length:Int)) (by omega);have a1:=yN T (b:=((RA l).length:Int)) (by omega);have am:T.tmod (RA l).length=T % (RA l).length:=yw t0;have n1:¬ (RA l)=[]:=fun e=>by rw [e] at hS; simp at hS; omega
   have n2:¬ (RA l).length=0:=by omega
   generalize ht:T % ((RA l).length:Int)=t at *
   have hR:∀ x∈[((⟨false,RA l⟩,t):Rt)],RtD x:=fun x hx=>by
    rw [yS.1 hx];exact ⟨l,na,rfl,a0,by simpa using a1⟩
   simp [aK,WV,-V,-y4,-y3,y0,ho,h4',hwT,am,n1,n2];refine of24_in (dn:=dn) (l:=l) (cn:=cn) (css:=css) (T:=T) (t:=t) (n4:=2) (n8:=6) ⟨p1,p2⟩ a0 (by omega) (by omega) h.chs _ [((⟨false,RA l⟩,t):Rt)] ⟨?_,?_,?_,⟨⟨.sl false ((RA l).map qA),.no⟩,?_⟩,?_,⟨dn,l,?_,h.nds,rfl⟩,?_,?_,.inl ?_,?_⟩ rfl hR _ HistR (fun L' s' jq hR' h7=>?_) (fun s' h2 h3=>?_)
   all_goals try (simp [wH,nL]; done)
   ·simp [-V,-y4,-y3,y0,h7];exact ⟨_,.inr ⟨L',by omega,by omega,hR',rfl⟩,rfl⟩
   ·simp [-V,-y4,-y3,y0,h2,h3];exact ⟨_,.inl rfl,rfl⟩
 ·simp only [fA,FF] at ho;simp [aK,WV,-V,-y4,-y3,y0,ho];exact ⟨_,.inl rfl,rfl⟩
section
open Go Go.RowKit Go.ChangeShapes Go.WideShapes
def histTs:List TypeId:=[78,76,24,22,127,125,165,25,162,5]
theorem b8:histTs.all (oO Tryz.prog histTs)=true:=by kernel_rfl
theorem tyChss {n:Nat} {a:List AV} (h:bF Tryz.prog n 76 a):∃ nl,∃ ps:List Chs,a=[.sl nl (ps.map chsC)]/\∀ c∈ps,(∀ x∈c.2,x.ok)/\c.2.length<=9223372036854775807:=by
 cases n with
 | zero=>exact h.elim
 | succ n =>
  simp only [bF,Tryz.underlying76] at h;obtain ⟨nl,els,rfl,_,_,_,h4⟩:=h;obtain ⟨L,rfl,hL⟩:=mM (P:=fun x=>bF Tryz.prog n 25 x) (f:=chsC) (p:=fun c=>(∀ x∈c.2,x.ok)/\c.2.length<=9223372036854775807) (fun x hx=>by
   obtain ⟨b,ps,e,h1,h2⟩:=tyChgs hx;exact ⟨(b,ps),e,h1,h2⟩) els (fun x hx=>(h4 x hx).2)
  exact ⟨nl,L,rfl,hL⟩
theorem histTy {a:AV} (h:ParT Tryz.prog 78 a):∃ dn,∃ l:List jC,∃ cn,∃ css:List Chs,∃ T:Int,a=.agg (WV dn l cn css T)/\HistOk l css T:=by
 obtain ⟨n,⟨_,c,rfl,h⟩ | ⟨hw,_⟩⟩:=h
 ·cases n with
  | zero=>exact h.elim
  | succ n =>
   simp only [bF,Tryz.underlying78,RI] at h;obtain ⟨_,_,rfl,_,h1,_,_,rfl,_,h2,_,_,rfl,_,h3,rfl⟩:=h;obtain ⟨dn,l,rfl,l1,l2⟩:=tyDraft h1;obtain ⟨cn,css,rfl,c1⟩:=tyChss h2;obtain ⟨T,rfl,u3⟩:=tyU h3;exact ⟨dn,l,cn,css,T,rfl,l1,c1,u3⟩
 ·have sc:TM Tryz.prog 78=true:=by kernel_rfl
  rw [sc] at hw;cases hw
end
def OH (t:sA):List Int:=t.syms.map aN.id++t.mems.map SB.id
theorem ZS (l:List Int):lB 1 (l.map qC)=true:=lC _ _ _ fun _=>rfl
def EQ (a b:Nat) (l:List Int) (x:wA):Prop:=x.v=.sl l.isEmpty (l.map qC)/\(x.a=.ex\/x.a=.own a 3\/x.a=.own b 3)
theorem XS (l:List Int) (x:Int):(l++[x]).isEmpty=false:=by simp
theorem hids_lp2 {rv:RV} {t:sA} (B0:List Int) (hB:B0.length<=8796093022206) (hl:t.syms.length<=8796093022206) (s:pA) (e1:(s.env 1).v=.ptr 1 1 0) (m1:s.mem 1 1=some ((qA t).map (⟨·,.no⟩))) (el:(s.env 9).v=.sl t.sn (t.syms.map DC)) (en:(s.env 10).v=.int .i64 t.syms.length) (ei:(s.env 11).v=.int .i64 0) (e3:EQ 19 32 B0 (s.env 3)) (k:Ex->pA->Option RV)
  (hk:∀ s',(s'.env 1).v=.ptr 1 1 0->s'.mem 1 1=some ((qA t).map (⟨·,.no⟩))->EQ 19 32 (B0++t.syms.map aN.id) (s'.env 3)->k (.exit 0) s'=some rv):GG dA eA sH s k=some rv:=by
 refine gA t.syms.length (fun i s=>(s.env 1).v=.ptr 1 1 0/\s.mem 1 1=some ((qA t).map (⟨·,.no⟩))/\(s.env 9).v=.sl t.sn (t.syms.map DC)/\(s.env 10).v=.int .i64 t.syms.length/\(s.env 11).v=.int .i64 i/\EQ 19 32 (B0++(t.syms.take i).map aN.id) (s.env 3))
  (fun e s=>e=.exit 0/\(s.env 1).v=.ptr 1 1 0/\s.mem 1 1=some ((qA t).map (⟨·,.no⟩))/\EQ 19 32 (B0++t.syms.map aN.id) (s.env 3)) (fun i hi s k h ih hk=>?_) _ _ ⟨e1,m1,el,en,ei,by simpa using e3⟩ (fun e s h=>by obtain ⟨rfl,h1,h2,h3⟩:=h; exact hk _ h1 h2 h3)
 obtain ⟨e1,m1,el,en,ei,e3,ha⟩:=h;refine tA ?_;by_cases fa:i<t.syms.length
 ·have ga:(i:Int)<t.syms.length:=by omega
  have g1:(t.syms.map DC)[i]?=some (DC t.syms[i]):=by simp [fa]
  have hw:=GA (i:=i);have nj:B0++(t.syms.take (i + 1)).map aN.id=(B0++(t.syms.take i).map aN.id)++[t.syms[i].id]:=by rw [<- yE fa,yM,yP]; rfl
  have ub:(B0++(t.syms.take i).map aN.id).length<=17592186044411:=by simp; omega
  rw [nj] at ih;generalize t.syms[i]=x at *
  generalize B0++(t.syms.take i).map aN.id=L at *
  have hr:kB 8 (L.length + 1)=true:=by rw [PA]; omega
  have jc:=ZS L;have kz:=XS L x.id;have xz:(L++[x.id]).map qC=L.map qC++[[.int .i64 x.id]]:=by simp [qC]
  simp only [DC] at g1;simp only [qA,yg,yk] at m1;generalize L.isEmpty=bL at *
  rcases ha with ha | ha | ha <;> cases bL
  all_goals
   simp [sH,-V,-y4,-y3,y0,e1,m1,el,en,e3,ha,ei,ga,g1,hw,hr,jc];refine ih fa _ ⟨?_,?_,?_,?_,?_,?_,.inr (.inl ?_)⟩
   ·simp [e1]
   ·simp [m1,qA]
   ·simp [el]
   ·simp [en]
   ·simp
   ·rw [kz,xz]; simp
   ·simp
 ·have ga:¬ (i:Int)<t.syms.length:=by omega
  rw [yC (by omega)] at e3;simp only [qA,yg,yk] at m1;simp [sH,-V,-y4,-y3,y0,e1,m1,en,ei,ga];exact hk _ _ ⟨rfl,by simp [e1],by simp [m1,qA],by simp [e3],by simpa using ha⟩
theorem hids_lp1 {rv:RV} {t:sA} (B0:List Int) (hB:B0.length<=8796093022206) (hl:t.mems.length<=8796093022206) (s:pA) (e1:(s.env 1).v=.ptr 1 1 0) (m1:s.mem 1 1=some ((qA t).map (⟨·,.no⟩))) (el:(s.env 22).v=.sl t.mn (t.mems.map zA)) (en:(s.env 23).v=.int .i64 t.mems.length) (ei:(s.env 24).v=.int .i64 0) (e3:EQ 19 32 B0 (s.env 3)) (k:Ex->pA->Option RV)
  (hk:∀ s',(s'.env 1).v=.ptr 1 1 0->s'.mem 1 1=some ((qA t).map (⟨·,.no⟩))->EQ 19 32 (B0++t.mems.map SB.id) (s'.env 3)->k (.exit 2) s'=some rv):GG dA eA aH s k=some rv:=by
 refine gA t.mems.length (fun i s=>(s.env 1).v=.ptr 1 1 0/\s.mem 1 1=some ((qA t).map (⟨·,.no⟩))/\(s.env 22).v=.sl t.mn (t.mems.map zA)/\(s.env 23).v=.int .i64 t.mems.length/\(s.env 24).v=.int .i64 i/\EQ 19 32 (B0++(t.mems.take i).map SB.id) (s.env 3))
  (fun e s=>e=.exit 2/\(s.env 1).v=.ptr 1 1 0/\s.mem 1 1=some ((qA t).map (⟨·,.no⟩))/\EQ 19 32 (B0++t.mems.map SB.id) (s.env 3)) (fun i hi s k h ih hk=>?_) _ _ ⟨e1,m1,el,en,ei,by simpa using e3⟩ (fun e s h=>by obtain ⟨rfl,h1,h2,h3⟩:=h; exact hk _ h1 h2 h3)
 obtain ⟨e1,m1,el,en,ei,e3,ha⟩:=h;refine tA ?_;by_cases fa:i<t.mems.length
 ·have ga:(i:Int)<t.mems.length:=by omega
  have g1:(t.mems.map zA)[i]?=some (zA t.mems[i]):=by simp [fa]
  have hw:=GA (i:=i);have nj:B0++(t.mems.take (i + 1)).map SB.id=(B0++(t.mems.take i).map SB.id)++[t.mems[i].id]:=by rw [<- yE fa,yM,yP]; rfl
  have ub:(B0++(t.mems.take i).map SB.id).length<=17592186044411:=by simp; omega
  rw [nj] at ih;generalize t.mems[i]=x at *
  generalize B0++(t.mems.take i).map SB.id=L at *
  have hr:kB 8 (L.length + 1)=true:=by rw [PA]; omega
  have jc:=ZS L;have kz:=XS L x.id;have xz:(L++[x.id]).map qC=L.map qC++[[.int .i64 x.id]]:=by simp [qC]
  simp only [zA] at g1;simp only [qA,yg,yk] at m1;generalize L.isEmpty=bL at *
  rcases ha with ha | ha | ha <;> cases bL
  all_goals
   simp [aH,-V,-y4,-y3,y0,e1,m1,el,en,e3,ha,ei,ga,g1,hw,hr,jc];refine ih fa _ ⟨?_,?_,?_,?_,?_,?_,.inr (.inr ?_)⟩
   ·simp [e1]
   ·simp [m1,qA]
   ·simp [el]
   ·simp [en]
   ·simp
   ·rw [kz,xz]; simp
   ·simp
 ·have ga:¬ (i:Int)<t.mems.length:=by omega
  rw [yC (by omega)] at e3;simp only [qA,yg,yk] at m1;simp [aH,-V,-y4,-y3,y0,e1,m1,en,ei,ga];exact hk _ _ ⟨rfl,by simp [e1],by simp [m1,qA],by simp [e3],by simpa using ha⟩
theorem hids_ev {t:sA} (h:t.fine):fA 105 [.agg (qA t)] (.sl (OH t).isEmpty ((OH t).map qC)):=by
 refine rA (c:=WK) rfl rfl ?_;obtain ⟨_,tl,wr⟩:=h;simp [WK,-V,-y4,-y3,y0,qA];refine hids_lp2 (t:=t) [] (by simp) tl _ (by simp) (by simp [qA]) (by simp) (by simp) (by simp) ⟨by simp,.inl (by simp)⟩ _ (fun s' f1 f2 f3=>?_);simp only [qA,yg,yk] at f2;simp [-V,-y4,-y3,y0,f1,f2];refine hids_lp1 (t:=t) (t.syms.map aN.id) (by simpa using tl) wr _ (by simp [f1]) (by simp [f2,qA]) (by simp) (by simp) (by simp) ?_ _ (fun s' f1 f2 f3=>?_)
 ·obtain ⟨g1,g2⟩:=f3;exact ⟨by simpa using g1,by simpa using g2⟩
 ·obtain ⟨g1,g2⟩:=f3;simp [-V,-y4,-y3,y0,g1,OH]
theorem rids_lp2 {rv:RV} {t:sA} (B0:List Int) (hB:B0.length<=8796093022206) (hl:t.syms.length<=8796093022206) (s:pA) (e1:(s.env 1).v=.ptr 1 1 0) (m1:s.mem 1 1=some ((qA t).map (⟨·,.no⟩))) (ei:(s.env 4).v=.int .i64 0) (e3:EQ 21 37 B0 (s.env 3)) (k:Ex->pA->Option RV)
  (hk:∀ s',(s'.env 1).v=.ptr 1 1 0->s'.mem 1 1=some ((qA t).map (⟨·,.no⟩))->EQ 21 37 (B0++t.syms.map aN.id) (s'.env 3)->k (.exit 0) s'=some rv):GG dA eA cJ s k=some rv:=by
 refine gA t.syms.length (fun i s=>(s.env 1).v=.ptr 1 1 0/\s.mem 1 1=some ((qA t).map (⟨·,.no⟩))/\(s.env 4).v=.int .i64 i/\EQ 21 37 (B0++(t.syms.take i).map aN.id) (s.env 3))
  (fun e s=>e=.exit 0/\(s.env 1).v=.ptr 1 1 0/\s.mem 1 1=some ((qA t).map (⟨·,.no⟩))/\EQ 21 37 (B0++t.syms.map aN.id) (s.env 3)) (fun i hi s k h ih hk=>?_) _ _ ⟨e1,m1,ei,by simpa using e3⟩ (fun e s h=>by obtain ⟨rfl,h1,h2,h3⟩:=h; exact hk _ h1 h2 h3)
 obtain ⟨e1,m1,ei,e3,ha⟩:=h;refine tA ?_;by_cases fa:i<t.syms.length
 ·have ga:(i:Int)<t.syms.length:=by omega
  have g1:(t.syms.map DC)[i]?=some (DC t.syms[i]):=by simp [fa]
  have hw:=GA (i:=i);have nj:B0++(t.syms.take (i + 1)).map aN.id=(B0++(t.syms.take i).map aN.id)++[t.syms[i].id]:=by rw [<- yE fa,yM,yP]; rfl
  have ub:(B0++(t.syms.take i).map aN.id).length<=17592186044411:=by simp; omega
  rw [nj] at ih;generalize t.syms[i]=x at *
  generalize B0++(t.syms.take i).map aN.id=L at *
  have hr:kB 8 (L.length + 1)=true:=by rw [PA]; omega
  have jc:=ZS L;have kz:=XS L x.id;have xz:(L++[x.id]).map qC=L.map qC++[[.int .i64 x.id]]:=by simp [qC]
  simp only [DC] at g1;simp only [qA,yg,yk] at m1;generalize L.isEmpty=bL at *
  rcases ha with ha | ha | ha <;> cases bL
  all_goals
   simp [cJ,-V,-y4,-y3,y0,e1,m1,e3,ha,ei,ga,g1,hw,hr,jc];refine ih fa _ ⟨?_,?_,?_,?_,.inr (.inl ?_)⟩
   ·simp [e1]
   ·simp [m1,qA]
   ·simp
   ·rw [kz,xz]; simp
   ·simp
 ·have ga:¬ (i:Int)<t.syms.length:=by omega
  rw [yC (by omega)] at e3;simp only [qA,yg,yk] at m1;simp [cJ,-V,-y4,-y3,y0,e1,m1,ei,ga];exact hk _ _ ⟨rfl,by simp [e1],by simp [m1,qA],by simp [e3],by simpa using ha⟩
theorem rids_lp1 {rv:RV} {t:sA} (B0:List Int) (hB:B0.length<=8796093022206) (hl:t.mems.length<=8796093022206) (s:pA) (e1:(s.env 1).v=.ptr 1 1 0) (m1:s.mem 1 1=some ((qA t).map (⟨·,.no⟩))) (ei:(s.env 5).v=.int .i64 0) (e3:EQ 21 37 B0 (s.env 3)) (k:Ex->pA->Option RV)
  (hk:∀ s',(s'.env 1).v=.ptr 1 1 0->s'.mem 1 1=some ((qA t).map (⟨·,.no⟩))->EQ 21 37 (B0++t.mems.map SB.id) (s'.env 3)->k (.exit 2) s'=some rv):GG dA eA xJ s k=some rv:=by
 refine gA t.mems.length (fun i s=>(s.env 1).v=.ptr 1 1 0/\s.mem 1 1=some ((qA t).map (⟨·,.no⟩))/\(s.env 5).v=.int .i64 i/\EQ 21 37 (B0++(t.mems.take i).map SB.id) (s.env 3))
  (fun e s=>e=.exit 2/\(s.env 1).v=.ptr 1 1 0/\s.mem 1 1=some ((qA t).map (⟨·,.no⟩))/\EQ 21 37 (B0++t.mems.map SB.id) (s.env 3)) (fun i hi s k h ih hk=>?_) _ _ ⟨e1,m1,ei,by simpa using e3⟩ (fun e s h=>by obtain ⟨rfl,h1,h2,h3⟩:=h; exact hk _ h1 h2 h3)
 obtain ⟨e1,m1,ei,e3,ha⟩:=h;refine tA ?_;by_cases fa:i<t.mems.length
 ·have ga:(i:Int)<t.mems.length:=by omega
  have g1:(t.mems.map zA)[i]?=some (zA t.mems[i]):=by simp [fa]
  have hw:=GA (i:=i);have nj:B0++(t.mems.take (i + 1)).map SB.id=(B0++(t.mems.take i).map SB.id)++[t.mems[i].id]:=by rw [<- yE fa,yM,yP]; rfl
  have ub:(B0++(t.mems.take i).map SB.id).length<=17592186044411:=by simp; omega
  rw [nj] at ih;generalize t.mems[i]=x at *
  generalize B0++(t.mems.take i).map SB.id=L at *
  have hr:kB 8 (L.length + 1)=true:=by rw [PA]; omega
  have jc:=ZS L;have kz:=XS L x.id;have xz:(L++[x.id]).map qC=L.map qC++[[.int .i64 x.id]]:=by simp [qC]
  simp only [zA] at g1;simp only [qA,yg,yk] at m1;generalize L.isEmpty=bL at *
  rcases ha with ha | ha | ha <;> cases bL
  all_goals
   simp [xJ,-V,-y4,-y3,y0,e1,m1,e3,ha,ei,ga,g1,hw,hr,jc];refine ih fa _ ⟨?_,?_,?_,?_,.inr (.inr ?_)⟩
   ·simp [e1]
   ·simp [m1,qA]
   ·simp
   ·rw [kz,xz]; simp
   ·simp
 ·have ga:¬ (i:Int)<t.mems.length:=by omega
  rw [yC (by omega)] at e3;simp only [qA,yg,yk] at m1;simp [xJ,-V,-y4,-y3,y0,e1,m1,ei,ga];exact hk _ _ ⟨rfl,by simp [e1],by simp [m1,qA],by simp [e3],by simpa using ha⟩
theorem rids_ev {t:sA} (h:t.fine):fA 107 [.agg (qA t)] (.sl (OH t).isEmpty ((OH t).map qC)):=by
 refine rA (c:=eN) rfl rfl ?_;obtain ⟨_,tl,wr⟩:=h;simp [eN,-V,-y4,-y3,y0,qA];refine rids_lp2 (t:=t) [] (by simp) tl _ (by simp) (by simp [qA]) (by simp) ⟨by simp,.inl (by simp)⟩ _ (fun s' f1 f2 f3=>?_);simp only [qA,yg,yk] at f2;simp [-V,-y4,-y3,y0,f1,f2];refine rids_lp1 (t:=t) (t.syms.map aN.id) (by simpa using tl) wr _ (by simp [f1]) (by simp [f2,qA]) (by simp) ?_ _ (fun s' f1 f2 f3=>?_)
 ·obtain ⟨g1,g2⟩:=f3;exact ⟨by simpa using g1,by simpa using g2⟩
 ·obtain ⟨g1,g2⟩:=f3;simp [-V,-y4,-y3,y0,g1,OH]
theorem index_int (l:List Int) (hl:l.length<=9223372036854775807) (b:Bool) (z:Int):fA 146 [.sl b (l.map qC),.int .i64 z] (.int .i64 (KA (fun x=>decide (z=x)) l)):=by
 refine rA (c:=eG) rfl rfl ?_;simp [eG,-V,-y4,-y3,y0];refine gA l.length (fun i s=>(s.env 0).v=.sl b (l.map qC)/\(s.env 1).v=.int .i64 z/\(s.env 7).v=.int .i64 l.length/\(s.env 8).v=.int .i64 i/\KA (fun x=>decide (z=x)) l=(if KA (fun x=>decide (z=x)) (l.drop i)=-1 then -1 else KA (fun x=>decide (z=x)) (l.drop i) + i))
  (fun e s=>(e=.exit 0/\KA (fun x=>decide (z=x)) l=-1)\/(e=.ret/\(s.env 4).v=.int .i64 (KA (fun x=>decide (z=x)) l))) (fun i hi s k h ih hk=>?_) _ _ ?_ (fun e s h=>?_)
 ·obtain ⟨e0,e1,e7,e8,hs⟩:=h;refine tA ?_;by_cases fa:i<l.length
  ·have ga:(i:Int)<l.length:=by omega
   have g1:(l.map qC)[i]?=some (qC l[i]):=by simp [fa]
   have hw:=GA (i:=i);rw [y8 fa] at hs;generalize l[i]=x at *
   simp only [qC] at g1;by_cases hp:z=x
   ·simp [CE,-V,-y4,-y3,y0,e0,e1,e7,e8,ga,g1,eq_true hp];refine hk _ _ (.inr ⟨rfl,?_⟩);rw [hs];simp [KA,eq_true hp]
   ·simp [CE,-V,-y4,-y3,y0,e0,e1,e7,e8,ga,g1,hp,hw];refine ih fa _ ⟨by simp [e0],by simp [e1],by simp [e7],by simp,?_⟩;rw [hs,mG _ x _ (by simp [hp])];have:=XC (fun x=>decide (z=x)) (l.drop (i + 1));by_cases h1:KA (fun x=>decide (z=x)) (l.drop (i + 1))=-1
    ·simp [h1]
    ·have h2:¬ KA (fun x=>decide (z=x)) (l.drop (i + 1)) + 1=-1:=by omega
     rw [if_neg h1,if_neg h2,if_neg h1];omega
  ·have ga:¬ (i:Int)<l.length:=by omega
   rw [yc (by omega)] at hs;simp [CE,-V,-y4,-y3,y0,e7,e8,ga];exact hk _ _ (.inl ⟨rfl,hs⟩)
 ·have:=XC (fun x=>decide (z=x)) l;refine ⟨by simp,by simp,by simp,by simp,?_⟩;by_cases h1:KA (fun x=>decide (z=x)) l=-1 <;> simp [h1]
 ·rcases h with ⟨rfl,h1⟩ | ⟨rfl,h1⟩
  ·simp [-V,-y4,-y3,y0,h1]
  ·simp [-V,-y4,-y3,y0,h1]
theorem any_mem (z:Int):∀ l:List Int,l.any (fun x=>decide (z=x))=decide (z∈l)
 | []=>rfl
 | x :: r=>by rw [List.any_cons,any_mem z r]; simp [yh]
theorem D3 (l:List Int) (hl:l.length<=9223372036854775807) (b:Bool) (z:Int):fA 106 [.sl b (l.map qC),.int .i64 z] (.bool (decide (z∈l))):=by
 have h:=index_int l hl b z;refine rA (c:=ZE) rfl rfl ?_;simp only [fA] at h;have ha:=ON (fun x=>decide (z=x)) l;have hm:=any_mem z l;rw [hm] at ha;simp [ZE,-V,-y4,-y3,y0,h,ha]
def JD (nm:ByteArray) (t:sA):Bool:=t.named&&decide (t.name=nm)
def findA (S:List sA) (nm:ByteArray):AV:=if KA (JD nm) S=-1 then .tup [.int .i64 0,.int .i64 4] else .tup [.int .i64 (KA (JD nm) S),.int .i64 0]
theorem find07_ev (s:DH) (hl:s.types.length<=9223372036854775807) (nm:ByteArray):fA 177 [.agg (TA s),.str nm] (findA s.types nm):=by
 refine rA (c:=EL) rfl rfl ?_;obtain ⟨nl,S⟩:=s;dsimp only at hl ⊢;simp [EL,-V,-y4,-y3,y0,TA];refine gA S.length (fun i s=>(s.env 1).v=.str nm/\(s.env 2).v=.ptr 2 1 0/\s.mem 2 1=some [⟨.sl nl (S.map qA),.no⟩]/\(s.env 6).v=.int .i64 i/\KA (JD nm) S=(if KA (JD nm) (S.drop i)=-1 then -1 else KA (JD nm) (S.drop i) + i))
  (fun e s=>(e=.exit 0/\KA (JD nm) S=-1)\/(e=.ret/\KA (JD nm) S≠-1/\(s.env 4).v=.int .i64 (KA (JD nm) S)/\(s.env 5).v=.int .i64 0)) (fun i hi s k h ih hk=>?_) _ _ ?_ (fun e s h=>?_)
 ·obtain ⟨e1,e2,m2,e6,hs⟩:=h;refine tA ?_;by_cases fa:i<S.length
  ·have ga:(i:Int)<S.length:=by omega
   have g1:(S.map qA)[i]?=some (qA S[i]):=by simp [fa]
   have hw:=GA (i:=i);have hn:=rD S[i].kind;rw [y8 fa] at hs;generalize S[i]=x at *
   have lq:(decide (x.kind=4)||decide (x.kind=5)||decide (x.kind=6))=x.named:=rfl;rw [lq] at hn;simp only [qA,fA] at g1 hn;have jx:JD nm x=false->KA (JD nm) S=(if KA (JD nm) (S.drop (i + 1))=-1 then -1 else KA (JD nm) (S.drop (i + 1)) + ((i + 1:Nat):Int)):=fun hp=>by
    rw [hs,mG _ x _ hp];have:=XC (JD nm) (S.drop (i + 1));by_cases h1:KA (JD nm) (S.drop (i + 1))=-1
    ·simp [h1]
    ·have h2:¬ KA (JD nm) (S.drop (i + 1)) + 1=-1:=by omega
     rw [if_neg h1,if_neg h2,if_neg h1];omega
   cases iT:x.named with
   | false =>
    rw [iT] at hn;simp [aG,-V,-y4,-y3,y0,e1,e2,m2,e6,ga,g1,hn,hw];exact ih fa _ ⟨by simp [e1],by simp [e2],by simp [m2],by simp,jx (by simp [JD,iT])⟩
   | true =>
    rw [iT] at hn;by_cases hp:x.name=nm
    ·have ui:JD nm x=true:=by simp [JD,iT,hp]
     have h0:KA (JD nm) S=(i:Int):=by rw [hs]; simp [KA,ui]
     simp [aG,-V,-y4,-y3,y0,e1,e2,m2,e6,ga,g1,hn,decide_eq_true hp];refine hk _ _ (.inr ⟨rfl,by omega,?_,by simp⟩);rw [h0];simp
    ·simp [aG,-V,-y4,-y3,y0,e1,e2,m2,e6,ga,g1,hn,hp,hw];exact ih fa _ ⟨by simp [e1],by simp [e2],by simp [m2],by simp,jx (by simp [JD,hp])⟩
  ·have ga:¬ (i:Int)<S.length:=by omega
   rw [yc (by omega)] at hs;simp [aG,-V,-y4,-y3,y0,e2,m2,e6,ga];exact hk _ _ (.inl ⟨rfl,hs⟩)
 ·have:=XC (JD nm) S;refine ⟨by simp,by simp,by simp,by simp,?_⟩;by_cases h1:KA (JD nm) S=-1 <;> simp [h1]
 ·unfold findA;rcases h with ⟨rfl,h1⟩ | ⟨rfl,h0,h1,h2⟩
  ·simp [-V,-y4,-y3,y0,h1]
  ·simp [-V,-y4,-y3,y0,h0,h1,h2]
def hasN (S:List sA) (nm:ByteArray):Bool:=S.any (JD nm)
def hasI (S:List sA) (nm:ByteArray) (id:Int):Bool:=match S.find? (JD nm) with
 | some t=>decide (id∈OH t)
 | none=>false
theorem X0 {α:Type} (p:α->Bool):∀ (l:List α),(KA p l=-1->l.find? p=none)/\(KA p l≠-1->∃ x,l[(KA p l).toNat]?=some x/\l.find? p=some x)
 | []=>by simp [KA]
 | x :: r=>by
  obtain ⟨h1,h2⟩:=X0 p r;have mf:=XC p r;cases hp:p x with
  | true=>simp [KA,hp]
  | false =>
   rw [mG p x r hp,List.find?_cons,hp];by_cases h:KA p r=-1
   ·simp [h,h1 h]
   ·rw [if_neg h];refine ⟨fun e=>absurd e (by omega),fun _=>?_⟩;obtain ⟨y,hy1,hy2⟩:=h2 h;refine ⟨y,?_,hy2⟩;rw [show (KA p r + 1).toNat=(KA p r).toNat + 1 from by omega];simpa using hy1
theorem has_ev (s:DH) (hs:s.fine) (nm:ByteArray) (id:Int):fA 147 [.agg (TA s),.str nm,.int .i64 id] (.tup [.bool (hasN s.types nm),.bool (hasI s.types nm id)]):=by
 have hf:=find07_ev s hs.1 nm;refine rA (c:=qL) rfl rfl ?_;obtain ⟨nl,S⟩:=s;obtain ⟨f1,f2⟩:=X0 (JD nm) S;have oy:=ON (JD nm) S;simp only [fA,TA,findA] at hf ⊢;unfold hasN hasI;rw [<- oy];by_cases h:KA (JD nm) S=-1
 ·rw [if_pos h] at hf;rw [f1 h,h];simp [qL,-V,-y4,-y3,y0,hf]
 ·rw [if_neg h] at hf;obtain ⟨t,wa,ht2⟩:=f2 h;have mf:=XC (JD nm) S;have h0:0<=KA (JD nm) S:=by omega
  have fa:=idxI_lt (JD nm) S;have bn:=hs.2 t (yl wa);have hi:=rids_ev bn;have g1:(S.map qA)[(KA (JD nm) S).toNat]?=some (qA t):=by rw [ye,wa]; rfl
  have rp:(OH t).length<=17592186044412:=by
   have h1:=bn.2.1;have h2:=bn.2.2;simp [OH];omega
  rw [ht2,decide_eq_true h0];dsimp only;generalize KA (JD nm) S=z at *
  generalize OH t=L at *
  simp only [fA,qA] at g1 hi;simp [qL,-V,-y4,-y3,y0,hf,g1,h0,hi];refine gA L.length (fun i s=>(s.env 2).v=.int .i64 id/\(s.env 10).v=.sl L.isEmpty (L.map qC)/\(s.env 11).v=.int .i64 i/\(id∈L ↔ id∈L.drop i))
   (fun e s=>(e=.exit 0/\¬ id∈L)\/(e=.ret/\id∈L/\(s.env 6).v=.bool true/\(s.env 7).v=.bool true)) (fun i hi s k h ih hk=>?_) _ _ ⟨by simp,by simp,by simp,by simp⟩ (fun e s h=>?_)
  ·obtain ⟨e2,e10,e11,hd⟩:=h;refine tA ?_;by_cases fa:i<L.length
   ·have ga:(i:Int)<L.length:=by omega
    have g1:(L.map qC)[i]?=some (qC L[i]):=by simp [fa]
    have hw:=GA (i:=i);rw [y8 fa,yh] at hd;generalize L[i]=x at *
    simp only [qC] at g1;by_cases hp:x=id
    ·simp [zJ,-V,-y4,-y3,y0,e2,e10,e11,ga,g1,hp];exact hk _ _ (.inr ⟨rfl,hd.2 (.inl hp.symm),by simp,by simp⟩)
    ·simp [zJ,-V,-y4,-y3,y0,e2,e10,e11,ga,g1,hp,hw];exact ih fa _ ⟨by simp [e2],by simp [e10],by simp,by rw [hd]; exact ⟨fun h=>h.elim (fun e=>absurd e.symm hp) (fun h=>h),.inr⟩⟩
   ·have ga:¬ (i:Int)<L.length:=by omega
    rw [yc (by omega)] at hd;simp [zJ,-V,-y4,-y3,y0,e10,e11,ga];exact hk _ _ (.inl ⟨rfl,fun h=>by simpa using hd.1 h⟩)
  ·rcases h with ⟨rfl,h1⟩ | ⟨rfl,h1,h2,h3⟩
   ·simp [-V,-y4,-y3,y0,h1]
   ·simp [-V,-y4,-y3,y0,h1,h2,h3]
def hN (L:List Rt) (nm:ByteArray) (j:Nat):Bool:=match L[j]? with
 | some x=>hasN x.1.types nm
 | none=>false
def hI (L:List Rt) (nm:ByteArray) (id:Int) (j:Nat):Bool:=match L[j]? with
 | some x=>hasI x.1.types nm id
 | none=>false
def RB (L:List Rt) (k:Nat) (nm:ByteArray) (id:Int):Prop:=∃ i j,i<j/\j<k/\hI L nm id i=true/\hN L nm j=true/\hI L nm id j=false
structure RuI (nl:Bool) (L:List Rt) (k:Nat) (nm:ByteArray) (id:Int) (i:Nat) (s:pA):Prop where
 e0:(s.env 0).v=.sl nl (L.map wH)
 e1:(s.env 1).v=.int .i64 k
 e2:(s.env 2).v=.str nm
 e3:(s.env 3).v=.int .i64 id
 e9:(s.env 9).v=.int .i64 i
theorem rru_in {rv:RV} {nl:Bool} {L:List Rt} (hL:∀ x∈L,x.1.fine) (hl:L.length<=1000) {k:Nat} (wg:k<=L.length) {nm:ByteArray} {id:Int} {i:Nat} (hik:i<k) (s:pA) (h:RuI nl L k nm id i s) (e12:(s.env 12).v=.int .i64 ((i + 1:Nat):Int)) (kk:Ex->pA->Option RV)
  (wb:∀ s',RuI nl L k nm id i s'->(∀ j,i<j->j<k->¬ (hN L nm j=true/\hI L nm id j=false))->kk (.exit 2) s'=some rv)
  (iq:∀ s' j,i<j->j<k->hN L nm j=true->hI L nm id j=false->(s'.env 8).v=.bool true->kk .ret s'=some rv):GG dA eA pE s kk=some rv:=by
 refine gA (k - (i + 1)) (fun n s=>RuI nl L k nm id i s/\(s.env 12).v=.int .i64 ((i + 1 + n:Nat):Int)/\∀ j,i<j->j<i + 1 + n->¬ (hN L nm j=true/\hI L nm id j=false))
  (fun e s=>(e=.exit 2/\RuI nl L k nm id i s/\∀ j,i<j->j<k->¬ (hN L nm j=true/\hI L nm id j=false))\/(e=.ret/\∃ j,i<j/\j<k/\hN L nm j=true/\hI L nm id j=false/\(s.env 8).v=.bool true)) (fun n hn s kk h ih hk=>?_) _ _ ⟨h,e12,fun j h1 h2=>by omega⟩ (fun e s h=>?_)
 ·obtain ⟨⟨e0,e1,e2,e3,e9⟩,e12,kc⟩:=h;refine tA ?_;obtain ⟨j,hj⟩:∃ j,j=i + 1 + n:=⟨_,rfl⟩;rw [<- hj] at e12 kc;by_cases fa:j<k
  ·have ga:(j:Int)<(k:Int):=by omega
   have g0:L[j]?=some (L[j]'(by omega)):=y5 (by omega);have g1:(L.map wH)[j]?=some (wH (L[j]'(by omega))):=by rw [ye,g0]; rfl
   have hw:=GA (i:=j);have hh:=has_ev (L[j]'(by omega)).1 (hL _ (y7 _)) nm id;have hn1:hN L nm j=hasN (L[j]'(by omega)).1.types nm:=by unfold hN; rw [g0]
   have oe:hI L nm id j=hasI (L[j]'(by omega)).1.types nm id:=by unfold hI; rw [g0]
   rw [<- hn1,<- oe] at hh;generalize L[j]'(by omega)=x at *
   simp only [fA,wH,nL,TA] at g1 hh;have fx:¬ (hN L nm j=true/\hI L nm id j=false)->∀ j',i<j'->j'<j + 1->¬ (hN L nm j'=true/\hI L nm id j'=false):=fun h0 j' h1 h2=>by
    by_cases e:j'=j
    ·rw [e]; exact h0
    ·exact kc j' h1 (by omega)
   have hjn:i + 1 + (n + 1)=j + 1:=by omega
   rw [hjn] at ih;cases fy:hN L nm j with
   | false =>
    rw [fy] at hh;simp [pE,-V,-y4,-y3,y0,e0,e1,e2,e3,e12,ga,g1,hh,hw];exact ih (by omega) _ ⟨⟨by simp [e0],by simp [e1],by simp [e2],by simp [e3],by simp [e9]⟩,by simp,fx (by simp [fy])⟩
   | true =>
    cases cv:hI L nm id j with
    | true =>
     rw [fy,cv] at hh;simp [pE,-V,-y4,-y3,y0,e0,e1,e2,e3,e12,ga,g1,hh,hw];exact ih (by omega) _ ⟨⟨by simp [e0],by simp [e1],by simp [e2],by simp [e3],by simp [e9]⟩,by simp,fx (by simp [cv])⟩
    | false =>
     rw [fy,cv] at hh;simp [pE,-V,-y4,-y3,y0,e0,e1,e2,e3,e12,ga,g1,hh,hw];exact hk _ _ (.inr ⟨rfl,j,by omega,fa,fy,cv,by simp⟩)
  ·have ga:¬ (j:Int)<(k:Int):=by omega
   simp [pE,-V,-y4,-y3,y0,e1,e12,ga];exact hk _ _ (.inl ⟨rfl,⟨by simp [e0],by simp [e1],by simp [e2],by simp [e3],by simp [e9]⟩,fun j' h1 h2=>kc j' h1 (by omega)⟩)
 ·rcases h with ⟨rfl,h1,h2⟩ | ⟨rfl,j,h1,h2,h3,h4,h5⟩
  ·exact wb _ h1 h2
  ·exact iq _ j h1 h2 h3 h4 h5
theorem rreused_ev {nl:Bool} {L:List Rt} (hL:∀ x∈L,x.1.fine) (hl:L.length<=1000) {k:Nat} (wg:k<=L.length) {nm:ByteArray} {id:Int} {b:Bool} (hb:b=true ↔ RB L k nm id):fA 108 [.sl nl (L.map wH),.int .i64 k,.str nm,.int .i64 id] (.bool b):=by
 refine rA (c:=nJ) rfl rfl ?_;simp [nJ,-V,-y4,-y3,y0];refine gA k (fun i s=>RuI nl L k nm id i s/\∀ i' j,i'<i->i'<j->j<k->¬ (hI L nm id i'=true/\hN L nm j=true/\hI L nm id j=false))
  (fun e s=>(e=.exit 0/\b=false)\/(e=.ret/\b=true/\(s.env 8).v=.bool true)) (fun i hi s kk h ih hk=>?_) _ _ ⟨⟨by simp,by simp,by simp,by simp,by simp⟩,fun i' j h=>by omega⟩ (fun e s h=>?_)
 ·obtain ⟨⟨e0,e1,e2,e3,e9⟩,kc⟩:=h;refine tA ?_;by_cases fa:i<k
  ·have ga:(i:Int)<(k:Int):=by omega
   have g0:L[i]?=some (L[i]'(by omega)):=y5 (by omega);have g1:(L.map wH)[i]?=some (wH (L[i]'(by omega))):=by rw [ye,g0]; rfl
   have hw:=GA (i:=i);have hh:=has_ev (L[i]'(by omega)).1 (hL _ (y7 _)) nm id;have oe:hI L nm id i=hasI (L[i]'(by omega)).1.types nm id:=by unfold hI; rw [g0]
   rw [<- oe] at hh;generalize hasN (L[i]'(by omega)).1.types nm=z at *
   generalize L[i]'(by omega)=x at *
   simp only [fA,wH,nL,TA] at g1 hh;cases cv:hI L nm id i with
   | false =>
    rw [cv] at hh;simp [SG,-V,-y4,-y3,y0,e0,e1,e2,e3,e9,ga,g1,hh,hw];refine ih fa _ ⟨⟨by simp [e0],by simp [e1],by simp [e2],by simp [e3],by simp⟩,fun i' j h1 h2 h3 h4=>?_⟩;by_cases e:i'=i
    ·rw [e,cv] at h4;cases h4.1
    ·exact kc i' j (by omega) h2 h3 h4
   | true =>
    rw [cv] at hh;simp [SG,-V,-y4,-y3,y0,e0,e1,e2,e3,e9,ga,g1,hh,hw];refine rru_in (nl:=nl) (nm:=nm) (id:=id) hL hl wg fa _ ⟨by simp [e0],by simp [e1],by simp [e2],by simp [e3],by simp [e9]⟩ (by simp) _ (fun s' h1 h2=>?_) (fun s' j h1 h2 h3 h4 h5=>?_)
    ·obtain ⟨e0,e1,e2,e3,e9⟩:=h1;simp [-V,-y4,-y3,y0,e9,hw];refine ih fa _ ⟨⟨by simp [e0],by simp [e1],by simp [e2],by simp [e3],by simp⟩,fun i' j q1 q2 q3 q4=>?_⟩;by_cases e:i'=i
     ·subst e;exact h2 j q2 q3 q4.2
     ·exact kc i' j (by omega) q2 q3 q4
    ·simp [-V,-y4,-y3,y0];exact hk _ _ (.inr ⟨rfl,hb.2 ⟨i,j,h1,h2,cv,h3,h4⟩,h5⟩)
  ·have ga:¬ (i:Int)<(k:Int):=by omega
   simp [SG,-V,-y4,-y3,y0,e1,e9,ga];refine hk _ _ (.inl ⟨rfl,?_⟩);cases hbb:b with
   | false=>rfl
   | true =>
    obtain ⟨i',j,h1,h2,h3,h4,h5⟩:=hb.1 hbb;exact absurd ⟨h3,h4,h5⟩ (kc i' j (by omega) h1 h2)
 ·rcases h with ⟨rfl,rfl⟩ | ⟨rfl,rfl,h1⟩
  ·simp [-V,-y4,-y3,y0]
  ·simp [-V,-y4,-y3,y0,h1]
noncomputable def Rb (L:List Rt) (k:Nat) (nm:ByteArray) (id:Int):Bool:=@decide (RB L k nm id) (Classical.propDecidable _)
theorem Rb_iff {L:List Rt} {k:Nat} {nm:ByteArray} {id:Int}:Rb L k nm id=true ↔ RB L k nm id:=by unfold Rb; exact @decide_eq_true_iff _ (Classical.propDecidable _)
def MJ (f:ByteArray->Int->Bool):List sA->Option (ByteArray × Int)
 | []=>none
 | t :: r=>match (OH t).find? (f t.name) with
  | some id=>some (t.name,id)
  | none=>MJ f r
def XN (f:Nat->ByteArray->Int->Bool):Nat->List Rt->AV
 | _,[]=>.tup [.int .i64 0,.str (ByteArray.mk #[]),.int .i64 0,.int .i64 15]
 | k,x :: r=>match MJ (f k) x.1.types with
  | some (nm,id)=>.tup [.int .i64 k,.str nm,.int .i64 id,.int .i64 0]
  | none=>XN f (k + 1) r
structure RvI (nl:Bool) (L:List Rt) (k t:Nat) (s:pA):Prop where
 e0:(s.env 0).v=.sl nl (L.map wH)
 e7:(s.env 7).v=.int .i64 k
 e8:(s.env 8).v=.int .i64 t
section
variable {rv:RV} {nl:Bool} {L:List Rt} (hL:∀ x∈L,x.1.fine) (hl:L.length<=1000)
include rv nl L hL hl
theorem rrv_in {k t:Nat} (wg:k<=L.length) {x:sA} {n9:Nat} (J:List Int) (hJ:J.length<=9223372036854775806) (bJ:Bool) (s:pA) (h:RvI nl L k t s) (e9:(s.env 9).v=.ptr 9 n9 0) (m9:s.mem 9 n9=some ((qA x).map (⟨·,.no⟩))) (e10:(s.env 10).v=.sl bJ (J.map qC)) (e11:(s.env 11).v=.int .i64 0) (kk:Ex->pA->Option RV)
  (wb:∀ s',RvI nl L k t s'->J.find? (Rb L k x.name)=none->kk (.exit 4) s'=some rv)
  (iq:∀ s' id,J.find? (Rb L k x.name)=some id->(s'.env 2).v=.int .i64 k->(s'.env 3).v=.str x.name->(s'.env 4).v=.int .i64 id->(s'.env 5).v=.int .i64 0->kk .ret s'=some rv):GG dA eA uF s kk=some rv:=by
 refine gA J.length (fun i s=>RvI nl L k t s/\(s.env 9).v=.ptr 9 n9 0/\s.mem 9 n9=some ((qA x).map (⟨·,.no⟩))/\(s.env 10).v=.sl bJ (J.map qC)/\(s.env 11).v=.int .i64 i/\(J.drop i).find? (Rb L k x.name)=J.find? (Rb L k x.name))
  (fun e s=>(e=.exit 4/\RvI nl L k t s/\J.find? (Rb L k x.name)=none)\/(e=.ret/\∃ id,J.find? (Rb L k x.name)=some id/\(s.env 2).v=.int .i64 k/\(s.env 3).v=.str x.name/\(s.env 4).v=.int .i64 id/\(s.env 5).v=.int .i64 0)) (fun i hi s kk h ih hk=>?_) _ _ ⟨h,e9,m9,e10,e11,rfl⟩ (fun e s h=>?_)
 ·obtain ⟨⟨e0,e7,e8⟩,e9,m9,e10,e11,hd⟩:=h;refine tA ?_;by_cases fa:i<J.length
  ·have ga:(i:Int)<J.length:=by omega
   have g1:(J.map qC)[i]?=some (qC J[i]):=by simp [fa]
   have hw:=GA (i:=i);rw [y8 fa,List.find?_cons] at hd;generalize J[i]=z at *
   have hr:=rreused_ev (nl:=nl) hL hl wg (nm:=x.name) (id:=z) (b:=Rb L k x.name z) Rb_iff;simp only [qC] at g1;simp only [qA,yg,yk] at m9;simp only [fA] at hr;cases hb:Rb L k x.name z with
   | true =>
    rw [hb] at hr hd;simp [uF,-V,-y4,-y3,y0,e0,e7,e9,m9,e10,e11,ga,g1,hr];exact hk _ _ (.inr ⟨rfl,z,hd.symm,by simp,by simp,by simp,by simp⟩)
   | false =>
    rw [hb] at hr hd;simp [uF,-V,-y4,-y3,y0,e0,e7,e9,m9,e10,e11,ga,g1,hr,hw];exact ih fa _ ⟨⟨by simp [e0],by simp [e7],by simp [e8]⟩,by simp [e9],by simp [m9,qA],by simp [e10],by simp,hd⟩
  ·have ga:¬ (i:Int)<J.length:=by omega
   rw [yc (by omega)] at hd;simp [uF,-V,-y4,-y3,y0,e10,e11,ga];exact hk _ _ (.inl ⟨rfl,⟨by simp [e0],by simp [e7],by simp [e8]⟩,hd.symm⟩)
 ·rcases h with ⟨rfl,h1,h2⟩ | ⟨rfl,id,h1,h2,h3,h4,h5⟩
  ·exact wb _ h1 h2
  ·exact iq _ id h1 h2 h3 h4 h5
theorem rrv_ty {k:Nat} {x:Rt} (hx:L[k]?=some x) (s:pA) (h:RvI nl L k 0 s) (kk:Ex->pA->Option RV)
  (wb:∀ s',(s'.env 0).v=.sl nl (L.map wH)->(s'.env 7).v=.int .i64 k->MJ (Rb L k) x.1.types=none->kk (.exit 2) s'=some rv)
  (iq:∀ s' nm id,MJ (Rb L k) x.1.types=some (nm,id)->(s'.env 2).v=.int .i64 k->(s'.env 3).v=.str nm->(s'.env 4).v=.int .i64 id->(s'.env 5).v=.int .i64 0->kk .ret s'=some rv):GG dA eA AG s kk=some rv:=by
 have wg:k<L.length:=(yf.1 hx).1;have g0:(L.map wH)[k]?=some (wH x):=by rw [ye,hx]; rfl
 have hxf:=hL x (yl hx);obtain ⟨⟨xnl,T⟩,xt⟩:=x;dsimp only at wb iq hxf;have jy:=hxf.1;dsimp only at jy;refine gA T.length (fun i s=>RvI nl L k i s/\MJ (Rb L k) (T.drop i)=MJ (Rb L k) T)
  (fun e s=>(e=.exit 2/\(s.env 0).v=.sl nl (L.map wH)/\(s.env 7).v=.int .i64 k/\MJ (Rb L k) T=none)\/(e=.ret/\∃ (nm:ByteArray) (id:Int),MJ (Rb L k) T=some (nm,id)/\(s.env 2).v=.int .i64 k/\(s.env 3).v=.str nm/\(s.env 4).v=.int .i64 id/\(s.env 5).v=.int .i64 0)) (fun i hi s kk h ih hk=>?_) _ _ ⟨h,rfl⟩ (fun e s h=>?_)
 ·obtain ⟨⟨e0,e7,e8⟩,hd⟩:=h;refine tA ?_;simp only [wH,nL] at g0;by_cases fa:i<T.length
  ·have ga:(i:Int)<T.length:=by omega
   have g1:(T.map qA)[i]?=some (qA T[i]):=by simp [fa]
   have hw:=GA (i:=i);have bn:=hxf.2 T[i] (y7 fa);have dP:=rids_ev bn;have hJ:(OH T[i]).length<=9223372036854775806:=by
    have h1:=bn.2.1;have h2:=bn.2.2;simp [OH];omega
   rw [y8 fa,MJ] at hd;generalize T[i]=y at *
   simp only [fA,qA] at g1 dP;simp [AG,-V,-y4,-y3,y0,e0,e7,e8,ga,g0,g1,dP];refine rrv_in (nl:=nl) (L:=L) (k:=k) (t:=i) (x:=y) (n9:=s.next + 1) hL hl (by omega) (OH y) hJ (OH y).isEmpty _ ⟨by simp [e0],by simp [e7],by simp [e8]⟩ (by simp) (by simp [qA]) (by simp) (by simp) _ (fun s' f1 f2=>?_) (fun s' id f1 f2 f3 f4 f5=>?_)
   ·obtain ⟨e0,e7,e8⟩:=f1;rw [f2] at hd;simp [-V,-y4,-y3,y0,e8,hw];exact ih fa _ ⟨⟨by simp [e0],by simp [e7],by simp⟩,hd⟩
   ·rw [f1] at hd;simp [-V,-y4,-y3,y0];exact hk _ _ (.inr ⟨rfl,y.name,id,hd.symm,f2,f3,f4,f5⟩)
  ·have ga:¬ (i:Int)<T.length:=by omega
   rw [yc (by omega),MJ] at hd;simp [AG,-V,-y4,-y3,y0,e0,e7,e8,ga,g0];exact hk _ _ (.inl ⟨rfl,by simp [e0],by simp [e7],hd.symm⟩)
 ·rcases h with ⟨rfl,h1,h2,h3⟩ | ⟨rfl,nm,id,h1,h2,h3,h4,h5⟩
  ·exact wb _ h1 h2 h3
  ·exact iq _ nm id h1 h2 h3 h4 h5
end
theorem I9 {nl:Bool} {L:List Rt} (hL:∀ x∈L,x.1.fine) (hl:L.length<=8) (na:∀ x∈L,x.ok):fA 49 [.sl nl (L.map wH)] (XN (Rb L) 0 L):=by
 have he:=herror_ev nl L hl na;refine rA (c:=kJ) rfl rfl ?_;simp only [fA] at he;obtain ⟨R,hR⟩:∃ R,XN (Rb L) 0 L=R:=⟨_,rfl⟩;rw [hR];simp [kJ,-V,-y4,-y3,y0,he];refine gA L.length (fun k s=>(s.env 0).v=.sl nl (L.map wH)/\(s.env 7).v=.int .i64 k/\XN (Rb L) k (L.drop k)=R)
  (fun e s=>(e=.exit 0/\R=.tup [.int .i64 0,.str (ByteArray.mk #[]),.int .i64 0,.int .i64 15])\/(e=.ret/\∃ (k:Nat) (nm:ByteArray) (id:Int),R=.tup [.int .i64 k,.str nm,.int .i64 id,.int .i64 0]/\(s.env 2).v=.int .i64 k/\(s.env 3).v=.str nm/\(s.env 4).v=.int .i64 id/\(s.env 5).v=.int .i64 0)) (fun k wg s kk h ih hk=>?_) _ _ ⟨by simp,by simp,hR⟩ (fun e s h=>?_)
 ·obtain ⟨e0,e7,hd⟩:=h;refine tA ?_;by_cases fa:k<L.length
  ·have ga:(k:Int)<L.length:=by omega
   have hw:=GA (i:=k);have hx:L[k]?=some L[k]:=y5 fa;rw [y8 fa,XN] at hd;generalize L[k]=x at *
   simp [lJ,-V,-y4,-y3,y0,e0,e7,ga];refine rrv_ty (nl:=nl) (k:=k) hL (by omega) hx _ ⟨by simp [e0],by simp [e7],by simp⟩ _ (fun s' f1 f2 f3=>?_) (fun s' nm id f1 f2 f3 f4 f5=>?_)
   ·rw [f3] at hd;simp [-V,-y4,-y3,y0,f2,hw];exact ih fa _ ⟨by simp [f1],by simp,hd⟩
   ·rw [f1] at hd;simp [-V,-y4,-y3,y0];exact hk _ _ (.inr ⟨rfl,k,nm,id,hd.symm,f2,f3,f4,f5⟩)
  ·have ga:¬ (k:Int)<L.length:=by omega
   rw [yc (by omega),XN] at hd;simp [lJ,-V,-y4,-y3,y0,e0,e7,ga];exact hk _ _ (.inl ⟨rfl,hd.symm⟩)
 ·rcases h with ⟨rfl,rfl⟩ | ⟨rfl,k,nm,id,rfl,h2,h3,h4,h5⟩
  ·simp [-V,-y4,-y3,y0]
  ·simp [-V,-y4,-y3,y0,h2,h3,h4,h5]
abbrev NK:=ByteArray × Int
def IP (p:NK):List AV:=[.agg [.str p.1,.int .i64 p.2],.bool true]
theorem keyP_at (p:NK):∀ l:List NK,(p∈l->PH (l.map IP) (.agg [.str p.1,.int .i64 p.2])=some (AV.bool true))/\(¬ p∈l->PH (l.map IP) (.agg [.str p.1,.int .i64 p.2])=none)
 | []=>⟨fun h=>by (cases h),fun _=>rfl⟩
 | x :: r=>by
  obtain ⟨i1,i2⟩:=keyP_at p r;simp only [yg,IP,PH,AN,TP];by_cases h1:x.1=p.1
  ·by_cases h2:x.2=p.2
   ·have e:x=p:=Prod.ext h1 h2;simp [h1,h2,e]
   ·have e:¬ p=x:=fun h=>h2 (by rw [h])
    simpa [h1,h2,e,IP] using And.intro i1 i2
  ·have e:¬ p=x:=fun h=>h1 (by rw [h])
   simpa [h1,e,IP] using And.intro i1 i2
theorem WX (p:NK):∀ l:List NK,∃ l':List NK,EG (l.map IP) (.agg [.str p.1,.int .i64 p.2]) (.bool true)=l'.map IP/\∀ x:NK,x∈l' ↔ x∈l\/x=p
 | []=>⟨[p],rfl,by simp⟩
 | x :: r=>by
  obtain ⟨l',h1,h2⟩:=WX p r;by_cases h:x=p
  ·subst h;refine ⟨x :: r,?_,fun y=>?_⟩
   ·simp [IP,EG,AN,TP]
   ·rw [yh];exact ⟨.inl,fun h=>h.elim (fun h=>h) .inl⟩
  ·refine ⟨x :: l',?_,fun y=>?_⟩
   ·have h':¬ (x.1=p.1/\x.2=p.2):=fun ⟨a,b⟩=>h (Prod.ext a b)
    simp only [yg,IP,EG,AN,TP] at h1 ⊢;by_cases c1:x.1=p.1
    ·have c2:¬ x.2=p.2:=fun b=>h' ⟨c1,b⟩
     simp [c1,c2];simpa [IP] using h1
    ·simp [c1];simpa [IP] using h1
   ·simp [h2,or_assoc]
theorem UW:∀ l:List NK,jK (.agg [.none,some .i64]) (l.map IP)=true
 | []=>rfl
 | x :: r=>by
  have:=UW r;simp only [jK] at this;simp [jK,IP,lG,fK,AV.flat,AV.scal]
structure iR (T:List sA):Prop where
 nam:∀ t∈T,t.named=true ↔ t.name≠⟨#[]⟩
 hol:∀ t∈T,t.name=⟨#[]⟩->OH t=[]
 un:∀ (i j:Nat) (t u:sA),T[i]?=some t->T[j]?=some u->t.name=u.name->t.name≠⟨#[]⟩->i=j
theorem good_hol {t:sA} (h:gB t=true) (hn:t.name=⟨#[]⟩):OH t=[]:=by
 have lq:t.named=false:=by
  cases hx:t.named with
  | false=>rfl
  | true=>exact absurd hn ((pO h).1 hx)
 have hk:=HI h;unfold gB tI sA.left at h;unfold OH;rcases kinds t.kind with e | e | e | e | e | e | e | e | e | e
 all_goals first | exact absurd hk e | skip
 all_goals simp [e,sA.same,LB,sA.named] at h lq ⊢
 all_goals first | (exact ⟨by simp [h],ZL (by simp [h])⟩) | skip
theorem GV {l:List sA}:∀ (n i:Nat),i + n=l.length->bC l n i=0->∀ (j:Nat) (t:sA),i<=j->l[j]?=some t->kC l j t=0
 | 0,i,h,_,j,t,hj,ht=>by
  have:=(yf.1 ht).1;omega
 | n + 1,i,h,hv,j,t,hj,ht=>by
  have hi:i<l.length:=by omega
  rw [bC,y5 hi] at hv;dsimp only at hv;by_cases e:kC l i l[i]=0
  ·rw [if_pos e] at hv;by_cases ou:i=j
   ·subst ou;rw [y5 hi] at ht;injection ht with ht;rw [<- ht];exact e
   ·exact GV n (i + 1) (by omega) hv j t (by omega) ht
  ·rw [if_neg e] at hv;exact absurd hv e
theorem valid_goodT {T:List sA} (h:valid T=0):iR T:=by
 unfold valid at h;by_cases im:32<T.length
 ·rw [if_pos im] at h;cases h
 rw [if_neg im] at h;have ra:=GV T.length 0 (by omega) h;have hg:∀ (j:Nat) (t:sA),T[j]?=some t->gB t=true/\¬ (t.named=true/\t.name∈(T.take j).map sA.name):=fun j t ht=>by
  have:=ra j t (by omega) ht;unfold kC at this;by_cases h1:gB t=false
  ·rw [if_pos h1] at this;cases this
  ·rw [if_neg h1] at this;by_cases h2:t.named=true/\t.name∈(T.take j).map sA.name
   ·rw [if_pos h2] at this;cases this
   ·exact ⟨by simpa using h1,h2⟩
 have fa:∀ (i j:Nat) (t u:sA),i<j->T[i]?=some t->T[j]?=some u->t.name=u.name->t.name≠⟨#[]⟩->False:=fun i j t u ou ht hu hn la=>by
  obtain ⟨g1,g2⟩:=hg j u hu;refine g2 ⟨(pO g1).2 (hn ▸ la),?_⟩;rw [<- hn];refine List.mem_map_of_mem (yl (i:=i) ?_);rw [yQ,if_pos ou];exact ht
 refine ⟨fun t ht=>?_,fun t ht hn=>?_,fun i j t u ht hu hn la=>?_⟩
 ·obtain ⟨j,hj⟩:=List.mem_iff_getElem?.1 ht;exact pO (hg j t hj).1
 ·obtain ⟨j,hj⟩:=List.mem_iff_getElem?.1 ht;exact good_hol (hg j t hj).1 hn
 ·rcases Nat.lt_trichotomy i j with h | h | h
  ·exact (fa i j t u h ht hu hn la).elim
  ·exact h
  ·exact (fa j i u t h hu ht hn.symm (hn ▸ la)).elim
def In_ (T:List sA) (nm:ByteArray) (id:Int):Prop:=∃ t∈T,t.name=nm/\nm≠⟨#[]⟩/\id∈OH t
def At_ (T:List sA) (nm:ByteArray):Prop:=∃ t∈T,t.name=nm/\nm≠⟨#[]⟩
theorem hasN_iff {T:List sA} (h:iR T) {nm:ByteArray}:hasN T nm=true ↔ At_ T nm:=by
 unfold hasN At_ JD;rw [List.any_eq_true];constructor
 ·rintro ⟨t,ht,hp⟩;simp only [y9,decide_eq_true_eq] at hp;exact ⟨t,ht,hp.2,hp.2 ▸ (h.nam t ht).1 hp.1⟩
 ·rintro ⟨t,ht,hn,la⟩;refine ⟨t,ht,?_⟩;simp only [y9,decide_eq_true_eq];exact ⟨(h.nam t ht).2 (hn ▸ la),hn⟩
theorem c8 {T:List sA} (h:iR T) {nm:ByteArray} {id:Int}:hasI T nm id=true ↔ In_ T nm id:=by
 unfold hasI In_;cases hf:T.find? (JD nm) with
 | none =>
  constructor
  ·intro h; cases h
  ·rintro ⟨t,ht,hn,la,_⟩;have:=List.find?_eq_none.1 hf t ht;unfold JD at this;simp only [y9,decide_eq_true_eq] at this;exact absurd ⟨(h.nam t ht).2 (hn ▸ la),hn⟩ this
 | some u =>
  have hu:=List.mem_of_find?_eq_some hf;have hp:=List.find?_some hf;unfold JD at hp;simp only [y9,decide_eq_true_eq] at hp;have la:=hp.2 ▸ (h.nam u hu).1 hp.1;dsimp only;rw [decide_eq_true_eq];constructor
  ·intro hi;exact ⟨u,hu,hp.2,la,hi⟩
  ·rintro ⟨t,ht,hn,_,hi⟩;obtain ⟨i,hti⟩:=List.mem_iff_getElem?.1 ht;obtain ⟨j,huj⟩:=List.mem_iff_getElem?.1 hu;have ou:=h.un i j t u hti huj (hn.trans hp.2.symm) (hn ▸ la);rw [ou,huj] at hti;injection hti with hti;rw [hti];exact hi
def HB (L:List Rt) (k:Nat) (nm:ByteArray) (id:Int):Prop:=∃ i,i<k/\hI L nm id i=true
def iZ (L:List Rt) (k:Nat) (T:List sA) (t:Nat) (H:List NK):Prop:=∀ nm id,((nm,id)∈H ↔ HB L k nm id\/∃ (s:Nat) (u:sA),s<t/\T[s]?=some u/\u.name=nm/\nm≠⟨#[]⟩/\id∈OH u)
def Q3 (L:List Rt) (k:Nat) (T:List sA) (t:Nat) (M:List NK):Prop:=∀ nm id,((nm,id)∈M ↔ RB L k nm id\/∃ (s:Nat) (u:sA),s<t/\T[s]?=some u/\u.name=nm/\nm≠⟨#[]⟩/\¬ id∈OH u/\HB L k nm id)
def HadI (L:List Rt) (k:Nat) (H:List NK):Prop:=∀ nm id,((nm,id)∈H ↔ HB L k nm id)
def MisI (L:List Rt) (k:Nat) (M:List NK):Prop:=∀ nm id,((nm,id)∈M ↔ RB L k nm id)
section
variable {L:List Rt}
include L
theorem had_0 {k:Nat} {T:List sA} {H:List NK} (h:HadI L k H):iZ L k T 0 H:=fun nm id=>by
 rw [h nm id];exact ⟨.inl,fun h=>h.elim (fun h=>h) (fun ⟨s,u,h,_⟩=>absurd h (by omega))⟩
theorem mis_0 {k:Nat} {T:List sA} {M:List NK} (h:MisI L k M):Q3 L k T 0 M:=fun nm id=>by
 rw [h nm id];exact ⟨.inl,fun h=>h.elim (fun h=>h) (fun ⟨s,u,h,_⟩=>absurd h (by omega))⟩
theorem had_skip {k t:Nat} {T:List sA} {H:List NK} (h:iZ L k T t H) {y:sA} (hy:T[t]?=some y) (hn:y.name=⟨#[]⟩):iZ L k T (t + 1) H:=fun nm id=>by
 rw [h nm id];constructor
 ·rintro (h | ⟨s,u,h1,h2⟩)
  ·exact .inl h
  ·exact .inr ⟨s,u,by omega,h2⟩
 ·rintro (h | ⟨s,u,h1,h2,h3,h4,h5⟩)
  ·exact .inl h
  ·by_cases e:s=t
   ·rw [e,hy] at h2;injection h2 with h2;exact absurd (h3.symm.trans (h2 ▸ hn)) h4
   ·exact .inr ⟨s,u,by omega,h2,h3,h4,h5⟩
theorem mis_skip {k t:Nat} {T:List sA} {M:List NK} (h:Q3 L k T t M) {y:sA} (hy:T[t]?=some y) (hn:y.name=⟨#[]⟩):Q3 L k T (t + 1) M:=fun nm id=>by
 rw [h nm id];constructor
 ·rintro (h | ⟨s,u,h1,h2⟩)
  ·exact .inl h
  ·exact .inr ⟨s,u,by omega,h2⟩
 ·rintro (h | ⟨s,u,h1,h2,h3,h4,h5⟩)
  ·exact .inl h
  ·by_cases e:s=t
   ·rw [e,hy] at h2;injection h2 with h2;exact absurd (h3.symm.trans (h2 ▸ hn)) h4
   ·exact .inr ⟨s,u,by omega,h2,h3,h4,h5⟩
theorem had_step {k t:Nat} {T:List sA} {H H':List NK} (h:iZ L k T t H) {y:sA} (hy:T[t]?=some y) (hn:y.name≠⟨#[]⟩) (h':∀ x,x∈H' ↔ x∈H\/(x.1=y.name/\x.2∈OH y)):iZ L k T (t + 1) H':=fun nm id=>by
 rw [h' (nm,id),h nm id];constructor
 ·rintro ((h | ⟨s,u,h1,h2⟩) | ⟨h1,h2⟩)
  ·exact .inl h
  ·exact .inr ⟨s,u,by omega,h2⟩
  ·dsimp only at h1 h2;exact .inr ⟨t,y,by omega,hy,h1.symm,h1 ▸ hn,h2⟩
 ·rintro (h | ⟨s,u,h1,h2,h3,h4,h5⟩)
  ·exact .inl (.inl h)
  ·by_cases e:s=t
   ·rw [e,hy] at h2;injection h2 with h2;exact .inr ⟨by rw [h2]; exact h3.symm,by rw [h2]; exact h5⟩
   ·exact .inl (.inr ⟨s,u,by omega,h2,h3,h4,h5⟩)
theorem mis_step {k t:Nat} {T:List sA} (hg:iR T) {H M M':List NK} (hH:iZ L k T t H) (h:Q3 L k T t M) {y:sA} (hy:T[t]?=some y) (hn:y.name≠⟨#[]⟩) (h':∀ x,x∈M' ↔ x∈M\/(x∈H/\x.1=y.name/\¬ x.2∈OH y)):Q3 L k T (t + 1) M':=fun nm id=>by
 rw [h' (nm,id),h nm id];constructor
 ·rintro ((h | ⟨s,u,h1,h2⟩) | ⟨h1,h2,h3⟩)
  ·exact .inl h
  ·exact .inr ⟨s,u,by omega,h2⟩
  ·dsimp only at h2 h3;rcases (hH nm id).1 h1 with h4 | ⟨s,u,h4,h5,h6,h7,h8⟩
   ·exact .inr ⟨t,y,by omega,hy,h2.symm,h2 ▸ hn,h3,h4⟩
   ·have:=hg.un s t u y h5 hy (h6.trans h2) (h6 ▸ h7);omega
 ·rintro (h | ⟨s,u,h1,h2,h3,h4,h5,h6⟩)
  ·exact .inl (.inl h)
  ·by_cases e:s=t
   ·rw [e,hy] at h2;injection h2 with h2;exact .inr ⟨(hH nm id).2 (.inl h6),by rw [h2]; exact h3.symm,by rw [h2]; exact h5⟩
   ·exact .inl (.inr ⟨s,u,by omega,h2,h3,h4,h5,h6⟩)
theorem had_next {k:Nat} {x:Rt} (hx:L[k]?=some x) (hg:iR x.1.types) {H:List NK} (h:iZ L k x.1.types x.1.types.length H):HadI L (k + 1) H:=fun nm id=>by
 rw [h nm id];have hi:hI L nm id k=true ↔ In_ x.1.types nm id:=by unfold hI; rw [hx]; exact c8 hg
 constructor
 ·rintro (⟨i,h1,h2⟩ | ⟨s,u,h1,h2,h3,h4,h5⟩)
  ·exact ⟨i,by omega,h2⟩
  ·exact ⟨k,by omega,hi.2 ⟨u,yl h2,h3,h4,h5⟩⟩
 ·rintro ⟨i,h1,h2⟩;by_cases e:i=k
  ·subst e;obtain ⟨t,ht,h3,h4,h5⟩:=hi.1 h2;obtain ⟨s,hs⟩:=List.mem_iff_getElem?.1 ht;exact .inr ⟨s,t,(yf.1 hs).1,hs,h3,h4,h5⟩
  ·exact .inl ⟨i,by omega,h2⟩
theorem mis_next {k:Nat} {x:Rt} (hx:L[k]?=some x) (hg:iR x.1.types) {M:List NK} (h:Q3 L k x.1.types x.1.types.length M):MisI L (k + 1) M:=fun nm id=>by
 rw [h nm id];have hi:hI L nm id k=true ↔ In_ x.1.types nm id:=by unfold hI; rw [hx]; exact c8 hg
 have hn:hN L nm k=true ↔ At_ x.1.types nm:=by unfold hN; rw [hx]; exact hasN_iff hg
 constructor
 ·rintro (⟨i,j,h1,h2,h3⟩ | ⟨s,u,h1,h2,h3,h4,h5,i,h6,h7⟩)
  ·exact ⟨i,j,h1,by omega,h3⟩
  ·refine ⟨i,k,h6,by omega,h7,hn.2 ⟨u,yl h2,h3,h4⟩,?_⟩;cases hb:hI L nm id k with
   | false=>rfl
   | true =>
    obtain ⟨t,ht,q1,q2,q3⟩:=hi.1 hb;obtain ⟨s',xf⟩:=List.mem_iff_getElem?.1 ht;have:=hg.un s' s t u xf h2 (q1.trans h3.symm) (q1 ▸ q2);rw [this,h2] at xf;injection xf with xf;exact absurd (xf ▸ q3) h5
 ·rintro ⟨i,j,h1,h2,h3,h4,h5⟩;by_cases e:j=k
  ·subst e;obtain ⟨u,hu,q1,q2⟩:=hn.1 h4;obtain ⟨s,hs⟩:=List.mem_iff_getElem?.1 hu;refine .inr ⟨s,u,(yf.1 hs).1,hs,q1,q2,fun dP=>?_,i,h1,h3⟩;have:=hi.2 ⟨u,hu,q1,q2,dP⟩;rw [h5] at this;cases this
  ·exact .inl ⟨i,j,h1,by omega,h3,h4,h5⟩
theorem had_nil:HadI L 0 []:=fun nm id=>by
 constructor
 ·intro h; cases h
 ·rintro ⟨i,h,_⟩; omega
theorem mis_nil:MisI L 0 []:=fun nm id=>by
 constructor
 ·intro h; cases h
 ·rintro ⟨i,j,h1,h2,_⟩; omega
end
theorem TN {b:C} {r:RV} (n:Nat) (I:Nat->pA->Prop) (E:Ex->pA->Prop)
  (step:∀ i,i<=n->∀ s k,I i s->(i<n->∀ s',I (i + 1) s'->GG AZ (cE dA eA) b s' k=some r)->(∀ e s',E e s'->k e s'=some r)->GG AZ (cE dA eA) b s k=some r)
  (s:pA) (k:Ex->pA->Option RV) (h:I 0 s) (hk:∀ e s',E e s'->k e s'=some r):GG AZ (cE dA eA) b s k=some r:=by
 have:∀ m i,i + m=n->∀ s,I i s->GG AZ (cE dA eA) b s k=some r:=by
  intro m
  induction m with
  | zero=>intro i hi s h; exact step i (by omega) s k h (fun fa=>absurd fa (by omega)) hk
  | succ m ih=>intro i hi s h; exact step i (by omega) s k h (fun _ s' h'=>ih (i + 1) (by omega) s' h') hk
 exact this n 0 (by omega) s h
theorem nstep_all {d:Option Nat} {x:JB} {s:pA} {k:pA->Option RV} {rv:RV} {t n tm nm N:Nat} {seen:List Nat} {L:List (List AV)} (hx:x.get s=.ptr t n 0) (ho:s.obj t n=some (BS tm nm N seen)) (hm:s.obj tm nm=some (HF L)) (hN:L.length=N)
  (h0:(∀ i,i<N->i∈seen)->k (s.put d ⟨.tup [.bool false],.no⟩)=some rv)
  (h1:∀ i,i<N->¬ i∈seen->∃ y v,L[i]?=some [y,v]/\(y.flat&&v.flat)=true/\k ((s.setObj t n (BS tm nm N (seen++[i]))).put d ⟨.tup [.bool true,y,v],.no⟩)=some rv):HP d x s k=some rv:=by
 unfold HP;rw [hx];simp only [ho,V,iN,hm,qE];rw [if_pos hN];refine TO _ (fun he=>h0 fun i hi=>?_) fun i hi=>?_
 ·rw [List.filter_eq_nil_iff] at he;have:=he i (List.mem_range.2 hi);simpa using this
 ·rw [List.mem_filter,List.mem_range] at hi;obtain ⟨y,v,g1,g2,g3⟩:=h1 i hi.1 (by simpa using hi.2);rw [g1];dsimp only;rw [if_pos g2];exact g3
structure PvI (nl:Bool) (L:List Rt) (n0 k:Nat) (H M:List NK) (s:pA):Prop where
 e28:(s.env 28).v=.sl nl (L.map wH)
 e29:(s.env 29).v=.int .i64 L.length
 e30:(s.env 30).v=.int .i64 k
 e7:(s.env 7).v=.mp 26 n0
 e8:(s.env 8).v=.mp 27 n0
 o7:s.obj 26 n0=some (HF (H.map IP))
 o8:s.obj 27 n0=some (HF (M.map IP))
structure P5 (nl:Bool) (L:List Rt) (n0 k:Nat) (H M:List NK) (xnl:Bool) (T:List sA) (xt:Int) (n10 t:Nat) (s:pA):Prop where
 pv:PvI nl L n0 k H M s
 e9:(s.env 9).v=.int .i64 k
 e10:(s.env 10).v=.ptr 10 n10 0
 m10:s.mem 10 n10=some [⟨.sl xnl (T.map qA),.no⟩,⟨.int .i64 xt,.no⟩]
 e37:(s.env 37).v=.sl xnl (T.map qA)
 e38:(s.env 38).v=.int .i64 T.length
 e39:(s.env 39).v=.int .i64 t
section
variable {rv:RV} {nl:Bool} {L:List Rt} {n0 k:Nat} {H M:List NK} {xnl:Bool} {T:List sA} {xt:Int}
include rv nl L n0 k H M xnl T xt
theorem pru_in {n10 t n12:Nat} {y:sA} (f:Int->Bool) (hf:∀ id,f id=true ↔ (y.name,id)∈M) (J:List Int) (hJ:J.length<=9223372036854775806) (bJ:Bool) (s:pA) (h:P5 nl L n0 k H M xnl T xt n10 t s) (e12:(s.env 12).v=.ptr 12 n12 0) (m12:s.mem 12 n12=some ((qA y).map (⟨·,.no⟩))) (e47:(s.env 47).v=.sl bJ (J.map qC)) (e48:(s.env 48).v=.int .i64 J.length) (e49:(s.env 49).v=.int .i64 0) (kk:Ex->pA->Option RV)
  (wb:∀ s',P5 nl L n0 k H M xnl T xt n10 t s'->J.find? f=none->kk (.exit 4) s'=some rv)
  (iq:∀ s' id,J.find? f=some id->(s'.env 2).v=.int .i64 k->(s'.env 3).v=.str y.name->(s'.env 4).v=.int .i64 id->(s'.env 5).v=.int .i64 0->kk .ret s'=some rv):GG AZ (cE dA eA) jE s kk=some rv:=by
 refine TN J.length (fun i s=>P5 nl L n0 k H M xnl T xt n10 t s/\(s.env 12).v=.ptr 12 n12 0/\s.mem 12 n12=some ((qA y).map (⟨·,.no⟩))/\(s.env 47).v=.sl bJ (J.map qC)/\(s.env 48).v=.int .i64 J.length/\(s.env 49).v=.int .i64 i/\(J.drop i).find? f=J.find? f)
  (fun e s=>(e=.exit 4/\P5 nl L n0 k H M xnl T xt n10 t s/\J.find? f=none)\/(e=.ret/\∃ id,J.find? f=some id/\(s.env 2).v=.int .i64 k/\(s.env 3).v=.str y.name/\(s.env 4).v=.int .i64 id/\(s.env 5).v=.int .i64 0)) (fun i hi s kk h ih hk=>?_) _ _ ⟨h,e12,m12,e47,e48,e49,rfl⟩ (fun e s h=>?_)
 ·obtain ⟨⟨⟨e28,e29,e30,e7,e8,o7,o8⟩,e9,e10,m10,e37,e38,e39⟩,e12,m12,e47,e48,e49,hd⟩:=h;refine tA ?_;simp only [qA,yg,yk] at m12;by_cases fa:i<J.length
  ·have ga:(i:Int)<J.length:=by omega
   have g1:(J.map qC)[i]?=some (qC J[i]):=by simp [fa]
   have hw:=GA (i:=i);rw [y8 fa,List.find?_cons] at hd;generalize J[i]=z at *
   obtain ⟨q1,q2⟩:=keyP_at (y.name,z) M;have nk:=UW M;have hfz:=hf z;dsimp only at q1 q2;simp only [qC] at g1;cases hb:f z with
   | true =>
    have q1:=q1 (hfz.1 hb);rw [hb] at hd;simp [jE,-V,-y4,-y3,y0,e7,e8,e9,e12,m12,e47,e48,e49,ga,g1,o8,qE,nk,lG,fK,AV.flat,AV.scal,q1];exact hk _ _ (.inr ⟨rfl,z,hd.symm,by simp,by simp,by simp,by simp⟩)
   | false =>
    have q2:=q2 fun h=>by rw [hfz.2 h] at hb; cases hb
    rw [hb] at hd;simp [jE,-V,-y4,-y3,y0,e7,e8,e9,e12,m12,e47,e48,e49,ga,g1,o8,qE,nk,lG,fK,AV.flat,AV.scal,q2,hw];refine ih fa _ ⟨⟨⟨?_,?_,?_,?_,?_,?_,?_⟩,?_,?_,?_,?_,?_,?_⟩,?_,?_,?_,?_,?_,hd⟩
    all_goals simp [e28,e29,e30,e7,e8,o7,o8,e9,e10,m10,e37,e38,e39,e12,m12,qA,e47,e48]
  ·have ga:¬ (i:Int)<J.length:=by omega
   rw [yc (by omega)] at hd;simp [jE,-V,-y4,-y3,y0,e48,e49,ga];refine hk _ _ (.inl ⟨rfl,⟨⟨?_,?_,?_,?_,?_,?_,?_⟩,?_,?_,?_,?_,?_,?_⟩,hd.symm⟩)
   all_goals simp [e28,e29,e30,e7,e8,o7,o8,e9,e10,m10,e37,e38,e39]
 ·rcases h with ⟨rfl,h1,h2⟩ | ⟨rfl,id,h1,h2,h3,h4,h5⟩
  ·exact wb _ h1 h2
  ·exact iq _ id h1 h2 h3 h4 h5
theorem pru_ty {n10:Nat} (hM:MisI L k M) (hg:iR T) (hT:∀ t∈T,t.fine) (jy:T.length<=1000) (s:pA) (h:P5 nl L n0 k H M xnl T xt n10 0 s) (kk:Ex->pA->Option RV)
  (wb:∀ s',PvI nl L n0 k H M s'->(s'.env 10).v=.ptr 10 n10 0->s'.mem 10 n10=some [⟨.sl xnl (T.map qA),.no⟩,⟨.int .i64 xt,.no⟩]->MJ (Rb L k) T=none->kk (.exit 2) s'=some rv)
  (iq:∀ s' nm id,MJ (Rb L k) T=some (nm,id)->(s'.env 2).v=.int .i64 k->(s'.env 3).v=.str nm->(s'.env 4).v=.int .i64 id->(s'.env 5).v=.int .i64 0->kk .ret s'=some rv):GG AZ (cE dA eA) kE s kk=some rv:=by
 refine TN T.length (fun i s=>P5 nl L n0 k H M xnl T xt n10 i s/\MJ (Rb L k) (T.drop i)=MJ (Rb L k) T)
  (fun e s=>(e=.exit 2/\∃ i,P5 nl L n0 k H M xnl T xt n10 i s/\MJ (Rb L k) T=none)\/(e=.ret/\∃ (nm:ByteArray) (id:Int),MJ (Rb L k) T=some (nm,id)/\(s.env 2).v=.int .i64 k/\(s.env 3).v=.str nm/\(s.env 4).v=.int .i64 id/\(s.env 5).v=.int .i64 0)) (fun i hi s kk h ih hk=>?_) _ _ ⟨h,rfl⟩ (fun e s h=>?_)
 ·obtain ⟨⟨⟨e28,e29,e30,e7,e8,o7,o8⟩,e9,e10,m10,e37,e38,e39⟩,hd⟩:=h;refine tA ?_;by_cases fa:i<T.length
  ·have ga:(i:Int)<T.length:=by omega
   have g1:(T.map qA)[i]?=some (qA T[i]):=by simp [fa]
   have hw:=GA (i:=i);have bn:=hT T[i] (y7 fa);have hhol:=hg.hol T[i] (y7 fa);have dP:=KY (by decide) (hids_ev bn);have hJ:(OH T[i]).length<=9223372036854775806:=by
    have h1:=bn.2.1;have h2:=bn.2.2;simp [OH];omega
   rw [y8 fa,MJ] at hd;generalize T[i]=y at *
   simp only [qA] at g1 dP;by_cases hn:y.name=⟨#[]⟩
   ·have og:(y.name=ByteArray.mk #[])=True:=eq_true hn;rw [hhol hn] at hd;simp [kE,-V,-y4,-y3,y0,e37,e38,e39,ga,g1,og,hw];refine ih fa _ ⟨⟨⟨?_,?_,?_,?_,?_,?_,?_⟩,?_,?_,?_,?_,?_,?_⟩,hd⟩
    all_goals simp [e28,e29,e30,e7,e8,o7,o8,e9,e10,m10,e37,e38,e39]
   ·have og:(y.name=ByteArray.mk #[])=False:=eq_false hn;simp [kE,-V,-y4,-y3,y0,e37,e38,e39,ga,g1,og,dP];refine pru_in (nl:=nl) (L:=L) (n0:=n0) (k:=k) (H:=H) (M:=M) (xnl:=xnl) (T:=T) (xt:=xt) (n10:=n10) (t:=i) (n12:=s.next + 1) (y:=y) (Rb L k y.name) (fun id=>Rb_iff.trans (hM y.name id).symm) (OH y) hJ (OH y).isEmpty _ ⟨⟨?_,?_,?_,?_,?_,?_,?_⟩,?_,?_,?_,?_,?_,?_⟩ ?_ ?_ ?_ ?_ ?_ _ (fun s' f1 f2=>?_) (fun s' id f1 f2 f3 f4 f5=>?_)
    case refine_19 =>
     obtain ⟨⟨e28,e29,e30,e7,e8,o7,o8⟩,e9,e10,m10,e37,e38,e39⟩:=f1;rw [f2] at hd;simp [-V,-y4,-y3,y0,e39,hw];refine ih fa _ ⟨⟨⟨?_,?_,?_,?_,?_,?_,?_⟩,?_,?_,?_,?_,?_,?_⟩,hd⟩
     all_goals simp [e28,e29,e30,e7,e8,o7,o8,e9,e10,m10,e37,e38,e39]
    case refine_20 =>
     rw [f1] at hd;simp [-V,-y4,-y3,y0];exact hk _ _ (.inr ⟨rfl,y.name,id,hd.symm,f2,f3,f4,f5⟩)
    all_goals simp [e28,e29,e30,e7,e8,o7,o8,e9,e10,m10,e37,e38,e39,qA]
  ·have ga:¬ (i:Int)<T.length:=by omega
   rw [yc (by omega),MJ] at hd;simp [kE,-V,-y4,-y3,y0,e38,e39,ga];refine hk _ _ (.inl ⟨rfl,i,⟨⟨?_,?_,?_,?_,?_,?_,?_⟩,?_,?_,?_,?_,?_,?_⟩,hd.symm⟩)
   all_goals simp [e28,e29,e30,e7,e8,o7,o8,e9,e10,m10,e37,e38,e39]
 ·rcases h with ⟨rfl,i,h1,h2⟩ | ⟨rfl,nm,id,h1,h2,h3,h4,h5⟩
  ·exact wb _ h1.pv h1.e10 h1.m10 h2
  ·exact iq _ nm id h1 h2 h3 h4 h5
end
structure P3 (nl:Bool) (L:List Rt) (n0 k:Nat) (H M:List NK) (xnl:Bool) (T:List sA) (t:Nat) (s:pA):Prop where
 pv:PvI nl L n0 k H M s
 e67:(s.env 67).v=.sl xnl (T.map qA)
 e68:(s.env 68).v=.int .i64 T.length
 e69:(s.env 69).v=.int .i64 t
theorem pru_add {rv:RV} {nl:Bool} {L:List Rt} {n0 k:Nat} {H M:List NK} {xnl:Bool} {T:List sA} {t n16:Nat} {y:sA} (J:List Int) (hJ:J.length<=9223372036854775806) (bJ:Bool) (s:pA) (h:P3 nl L n0 k H M xnl T t s) (mc:(s.env 16).v=.ptr 16 n16 0) (xl:s.mem 16 n16=some ((qA y).map (⟨·,.no⟩))) (e98:(s.env 98).v=.sl bJ (J.map qC)) (e99:(s.env 99).v=.int .i64 J.length) (ev:(s.env 100).v=.int .i64 0) (kk:Ex->pA->Option RV)
  (wb:∀ s' H',P3 nl L n0 k H' M xnl T t s'->(∀ x,x∈H' ↔ x∈H\/(x.1=y.name/\x.2∈J))->kk (.exit 10) s'=some rv):GG AZ (cE dA eA) nF s kk=some rv:=by
 refine TN J.length (fun i s=>(∃ H':List NK,P3 nl L n0 k H' M xnl T t s/\∀ x,x∈H' ↔ x∈H\/(x.1=y.name/\x.2∈J.take i))/\(s.env 16).v=.ptr 16 n16 0/\s.mem 16 n16=some ((qA y).map (⟨·,.no⟩))/\(s.env 98).v=.sl bJ (J.map qC)/\(s.env 99).v=.int .i64 J.length/\(s.env 100).v=.int .i64 i)
  (fun e s=>e=.exit 10/\∃ H':List NK,P3 nl L n0 k H' M xnl T t s/\∀ x,x∈H' ↔ x∈H\/(x.1=y.name/\x.2∈J)) (fun i hi s kk h ih hk=>?_) _ _ ⟨⟨H,h,fun x=>by simp⟩,mc,xl,e98,e99,ev⟩ (fun e s h=>by obtain ⟨rfl,H',h1,h2⟩:=h; exact wb _ H' h1 h2)
 obtain ⟨⟨H',⟨⟨e28,e29,e30,e7,e8,o7,o8⟩,e67,e68,e69⟩,hH⟩,mc,xl,e98,e99,ev⟩:=h;refine tA ?_;simp only [qA,yg,yk] at xl;by_cases fa:i<J.length
 ·have ga:(i:Int)<J.length:=by omega
  have g1:(J.map qC)[i]?=some (qC J[i]):=by simp [fa]
  have hw:=GA (i:=i);have nj:∀ z,z∈J.take (i + 1) ↔ z∈J.take i\/z=J[i]:=fun z=>by rw [<- yE fa,yp,yS]
  generalize J[i]=z at *
  obtain ⟨H2,q1,q2⟩:=WX (y.name,z) H';have nk:=UW H';simp only [qC] at g1;simp [nF,-V,-y4,-y3,y0,e7,mc,xl,e98,e99,ev,ga,g1,o7,qE,nk,lG,fK,AV.flat,AV.scal,q1,hw];refine ih fa _ ⟨⟨H2,⟨⟨?_,?_,?_,?_,?_,?_,?_⟩,?_,?_,?_⟩,fun x=>?_⟩,?_,?_,?_,?_,?_⟩
  case refine_11 =>
   rw [q2 x,hH x,nj];constructor
   ·rintro ((h | ⟨h1,h2⟩) | h)
    ·exact .inl h
    ·exact .inr ⟨h1,.inl h2⟩
    ·exact .inr ⟨by rw [h],.inr (by rw [h])⟩
   ·rintro (h | ⟨h1,h2 | h2⟩)
    ·exact .inl (.inl h)
    ·exact .inl (.inr ⟨h1,h2⟩)
    ·exact .inr (Prod.ext h1 h2)
  all_goals simp [e28,e29,e30,e7,e8,o7,o8,e67,e68,e69,mc,xl,qA,e98,e99]
 ·have ga:¬ (i:Int)<J.length:=by omega
  rw [yC (by omega)] at hH;simp [nF,-V,-y4,-y3,y0,e99,ev,ga];refine hk _ _ ⟨rfl,H',⟨⟨?_,?_,?_,?_,?_,?_,?_⟩,?_,?_,?_⟩,hH⟩
  all_goals simp [e28,e29,e30,e7,e8,o7,o8,e67,e68,e69]
theorem Z1:∀ {l m:List Nat},l.Nodup->(∀ x∈l,x∈m)->l.length<=m.length
 | [],_,_,_=>by simp
 | x :: r,m,hn,hs=>by
  rw [List.nodup_cons] at hn;have h1:=Z1 (l:=r) (m:=m.erase x) hn.2 (fun y hy=>by
   have la:y≠x:=fun e=>hn.1 (e ▸ hy)
   exact (List.mem_erase_of_ne la).2 (hs y (by simp [hy])))
  have hm:x∈m:=hs x (by simp);rw [List.length_erase_of_mem hm] at h1;have:0<m.length:=List.length_pos_of_mem hm;simp;omega
theorem pru_rng {rv:RV} {nl:Bool} {L:List Rt} {n0 k:Nat} {H M:List NK} {xnl:Bool} {T:List sA} {t n16 nI:Nat} {y:sA} (J:List Int) (hJ:J.length<=9223372036854775806) (bJ:Bool) (s:pA) (h:P3 nl L n0 k H M xnl T t s) (mc:(s.env 16).v=.ptr 16 n16 0) (xl:s.mem 16 n16=some ((qA y).map (⟨·,.no⟩))) (je:(s.env 17).v=.sl bJ (J.map qC)) (bv:(s.env 79).v=.ptr 79 nI 0) (oI:s.obj 79 nI=some (BS 26 n0 H.length [])) (kk:Ex->pA->Option RV)
  (wb:∀ s' M',P3 nl L n0 k H M' xnl T t s'->(s'.env 16).v=.ptr 16 n16 0->s'.mem 16 n16=some ((qA y).map (⟨·,.no⟩))->(s'.env 17).v=.sl bJ (J.map qC)->(∀ x,x∈M' ↔ x∈M\/(x∈H/\x.1=y.name/\¬ x.2∈J))->kk (.exit 8) s'=some rv):GG AZ (cE dA eA) WH s kk=some rv:=by
 refine TN H.length (fun c s=>∃ (seen:List Nat) (M':List NK),seen.length=c/\seen.Nodup/\(∀ i∈seen,i<H.length)/\P3 nl L n0 k H M' xnl T t s/\(s.env 16).v=.ptr 16 n16 0/\s.mem 16 n16=some ((qA y).map (⟨·,.no⟩))/\(s.env 17).v=.sl bJ (J.map qC)/\(s.env 79).v=.ptr 79 nI 0/\s.obj 79 nI=some (BS 26 n0 H.length seen)/\∀ x,x∈M' ↔ x∈M\/∃ i,i∈seen/\H[i]?=some x/\x.1=y.name/\¬ x.2∈J)
  (fun e s=>e=.exit 8/\∃ M':List NK,P3 nl L n0 k H M' xnl T t s/\(s.env 16).v=.ptr 16 n16 0/\s.mem 16 n16=some ((qA y).map (⟨·,.no⟩))/\(s.env 17).v=.sl bJ (J.map qC)/\∀ x,x∈M' ↔ x∈M\/(x∈H/\x.1=y.name/\¬ x.2∈J)) (fun c hc s kk h ih hk=>?_) _ _ ⟨[],M,rfl,List.nodup_nil,by simp,h,mc,xl,je,bv,oI,by simp⟩ (fun e s h=>by obtain ⟨rfl,M',h1,h2,h3,h4,h5⟩:=h; exact wb _ M' h1 h2 h3 h4 h5)
 obtain ⟨seen,M',sd,cw,hsr,⟨⟨e28,e29,e30,e7,e8,o7,o8⟩,e67,e68,e69⟩,mc,xl,je,bv,oI,hM⟩:=h;refine tA ?_;simp only [qA,yg,yk] at xl;simp [WH,-V,-y4,-y3,y0];refine nstep_all (t:=79) (n:=nI) (tm:=26) (nm:=n0) (N:=H.length) (seen:=seen) (L:=H.map IP) (by simp [bv]) (by simp [oI]) (by simp [o7]) (by simp) (fun ra=>?_) (fun i hi iw=>?_)
 ·simp [-V,-y4,-y3,y0];refine hk _ _ ⟨rfl,M',⟨⟨?_,?_,?_,?_,?_,?_,?_⟩,?_,?_,?_⟩,?_,?_,?_,fun x=>?_⟩
  case refine_14 =>
   rw [hM x];constructor
   ·rintro (h | ⟨i,h1,h2,h3⟩)
    ·exact .inl h
    ·exact .inr ⟨yl h2,h3⟩
   ·rintro (h | ⟨h1,h2⟩)
    ·exact .inl h
    ·obtain ⟨i,hi⟩:=List.mem_iff_getElem?.1 h1;exact .inr ⟨i,ra i (yf.1 hi).1,hi,h2⟩
  all_goals simp [e28,e29,e30,e7,e8,o7,o8,e67,e68,e69,mc,xl,qA,je]
 ·have dd:c<H.length:=by
   have h1:=Z1 (l:=i :: seen) (m:=List.range H.length) (List.nodup_cons.2 ⟨iw,cw⟩) (fun x hx=>by
    rw [List.mem_range];rcases yh.1 hx with rfl | hx
    ·exact hi
    ·exact hsr x hx)
   simp at h1;omega
  have hx:H[i]?=some H[i]:=y5 hi;have gH:(H.map IP)[i]?=some [.agg [.str H[i].1,.int .i64 H[i].2],.bool true]:=by rw [ye,hx]; rfl
  refine ⟨_,_,gH,by simp [AV.flat,AV.scal],?_⟩;have uv:=KY (by decide) (D3 J (by omega) bJ H[i].2);obtain ⟨M2,q1,q2⟩:=WX H[i] M';have nk:=UW M';have hnd':(seen++[i]).Nodup:=by
   rw [List.nodup_append];refine ⟨cw,by simp,fun a ha b hb=>?_⟩;simp at hb;subst hb;exact fun e=>iw (e ▸ ha)
  have hsr':∀ j∈seen++[i],j<H.length:=fun j hj=>by
   rcases yp.1 hj with h | h
   ·exact hsr j h
   ·simp at h;omega
  have cL:∀ M3:List NK,(∀ x,x∈M3 ↔ x∈M'\/(x=H[i]/\H[i].1=y.name/\¬ H[i].2∈J))->∀ x,x∈M3 ↔ x∈M\/∃ j,j∈seen++[i]/\H[j]?=some x/\x.1=y.name/\¬ x.2∈J:=fun M3 hM3 x=>by
   rw [hM3 x,hM x];constructor
   ·rintro ((h | ⟨j,h1,h2⟩) | ⟨h1,h2⟩)
    ·exact .inl h
    ·exact .inr ⟨j,yX _ h1,h2⟩
    ·exact .inr ⟨i,by simp,by rw [h1]; exact hx,by rw [h1]; exact h2⟩
   ·rintro (h | ⟨j,h1,h2,h3⟩)
    ·exact .inl (.inl h)
    ·rcases yp.1 h1 with h | h
     ·exact .inl (.inr ⟨j,h,h2,h3⟩)
     ·simp at h;subst h;rw [hx] at h2;injection h2 with h2;exact .inr ⟨h2.symm,h2 ▸ h3⟩
  generalize H[i]=p at *
  by_cases eb:p.1=y.name
  ·by_cases dP:p.2∈J
   ·rw [decide_eq_true dP] at uv;simp [-V,-y4,-y3,y0,mc,xl,je,bv,gH,uv,oI,o7,iN,qE,AV.flat,AV.scal,eq_true eb];refine ih dd _ ⟨seen++[i],M',by simp [sd],hnd',hsr',⟨⟨?_,?_,?_,?_,?_,?_,?_⟩,?_,?_,?_⟩,?_,?_,?_,?_,?_,cL M' fun x=>⟨.inl,fun h=>h.elim (fun h=>h) fun h=>absurd dP h.2.2⟩⟩
    all_goals simp [e28,e29,e30,e7,e8,o7,o8,e67,e68,e69,mc,xl,qA,je,bv]
   ·rw [decide_eq_false dP] at uv;simp [-V,-y4,-y3,y0,e8,mc,xl,je,bv,gH,uv,oI,o7,o8,iN,qE,nk,lG,fK,AV.flat,AV.scal,eq_true eb,q1];refine ih dd _ ⟨seen++[i],M2,by simp [sd],hnd',hsr',⟨⟨?_,?_,?_,?_,?_,?_,?_⟩,?_,?_,?_⟩,?_,?_,?_,?_,?_,cL M2 fun x=>by rw [q2 x]; exact ⟨fun h=>h.elim .inl fun h=>.inr ⟨h,eb,dP⟩,fun h=>h.elim .inl fun h=>.inr h.1⟩⟩
    all_goals simp [e28,e29,e30,e7,e8,o7,o8,e67,e68,e69,mc,xl,qA,je,bv]
  ·simp [-V,-y4,-y3,y0,mc,xl,je,bv,gH,oI,o7,iN,qE,AV.flat,AV.scal,eq_false eb];refine ih dd _ ⟨seen++[i],M',by simp [sd],hnd',hsr',⟨⟨?_,?_,?_,?_,?_,?_,?_⟩,?_,?_,?_⟩,?_,?_,?_,?_,?_,cL M' fun x=>⟨.inl,fun h=>h.elim (fun h=>h) fun h=>absurd h.2.1 eb⟩⟩
   all_goals simp [e28,e29,e30,e7,e8,o7,o8,e67,e68,e69,mc,xl,qA,je,bv]






theorem RtD.ok {x:Rt} (h:RtD x):x.ok:=by
 obtain ⟨l,hl,e,h0,h1⟩:=h;obtain ⟨S,t⟩:=x;dsimp only at e h0 h1;subst e;exact ⟨w8 hl,h0,h1⟩
theorem pru_upd {rv:RV} {nl:Bool} {L:List Rt} {n0 k:Nat} {H M:List NK} {xnl:Bool} {T:List sA} (hH:HadI L k H) (hM:MisI L k M) (hg:iR T) (hT:∀ t∈T,t.fine) (jy:T.length<=1000) (s:pA) (h:P3 nl L n0 k H M xnl T 0 s) (kk:Ex->pA->Option RV)
  (wb:∀ s' H' M',PvI nl L n0 k H' M' s'->iZ L k T T.length H'->Q3 L k T T.length M'->kk (.exit 6) s'=some rv):GG AZ (cE dA eA) gE s kk=some rv:=by
 refine TN T.length (fun i s=>∃ H' M':List NK,P3 nl L n0 k H' M' xnl T i s/\iZ L k T i H'/\Q3 L k T i M')
  (fun e s=>e=.exit 6/\∃ H' M':List NK,PvI nl L n0 k H' M' s/\iZ L k T T.length H'/\Q3 L k T T.length M') (fun i hi s kk h ih hk=>?_) _ _ ⟨H,M,h,had_0 hH,mis_0 hM⟩ (fun e s h=>by obtain ⟨rfl,H',M',h1,h2,h3⟩:=h; exact wb _ H' M' h1 h2 h3)
 obtain ⟨H',M',⟨⟨e28,e29,e30,e7,e8,o7,o8⟩,e67,e68,e69⟩,hHt,hMt⟩:=h;refine tA ?_;by_cases fa:i<T.length
 ·have ga:(i:Int)<T.length:=by omega
  have g1:(T.map qA)[i]?=some (qA T[i]):=by simp [fa]
  have hy:T[i]?=some T[i]:=y5 fa;have hw:=GA (i:=i);have bn:=hT T[i] (y7 fa);have dP:=KY (by decide) (hids_ev bn);have hJ:(OH T[i]).length<=9223372036854775806:=by
   have h1:=bn.2.1;have h2:=bn.2.2;simp [OH];omega
  generalize T[i]=y at *
  simp only [qA] at g1 dP;by_cases hn:y.name=⟨#[]⟩
  ·have og:(y.name=ByteArray.mk #[])=True:=eq_true hn;simp [gE,-V,-y4,-y3,y0,e67,e68,e69,ga,g1,og,hw];refine ih fa _ ⟨H',M',⟨⟨?_,?_,?_,?_,?_,?_,?_⟩,?_,?_,?_⟩,had_skip hHt hy hn,mis_skip hMt hy hn⟩
   all_goals simp [e28,e29,e30,e7,e8,o7,o8,e67,e68]
  ·have og:(y.name=ByteArray.mk #[])=False:=eq_false hn;simp [gE,-V,-y4,-y3,y0,e7,e67,e68,e69,ga,g1,og,dP,o7,qE];refine pru_rng (nl:=nl) (L:=L) (n0:=n0) (k:=k) (H:=H') (M:=M') (xnl:=xnl) (T:=T) (t:=i) (n16:=s.next + 1) (nI:=s.next + 1 + 1 + 1 + 1) (y:=y) (OH y) hJ (OH y).isEmpty _ ⟨⟨?_,?_,?_,?_,?_,?_,?_⟩,?_,?_,?_⟩ ?_ ?_ ?_ ?_ ?_ _ (fun s' M2 f1 f16 g16 f17 hM2=>?_)
   case refine_16 =>
    obtain ⟨⟨e28,e29,e30,e7,e8,o7,o8⟩,e67,e68,e69⟩:=f1;simp [-V,-y4,-y3,y0,f17];refine pru_add (nl:=nl) (L:=L) (n0:=n0) (k:=k) (H:=H') (M:=M2) (xnl:=xnl) (T:=T) (t:=i) (n16:=s.next + 1) (y:=y) (OH y) hJ (OH y).isEmpty _ ⟨⟨?_,?_,?_,?_,?_,?_,?_⟩,?_,?_,?_⟩ ?_ ?_ ?_ ?_ ?_ _ (fun s'' H2 f2 hH2=>?_)
    case refine_16 =>
     obtain ⟨⟨e28,e29,e30,e7,e8,o7,o8⟩,e67,e68,e69⟩:=f2;simp [-V,-y4,-y3,y0,e69,hw];refine ih fa _ ⟨H2,M2,⟨⟨?_,?_,?_,?_,?_,?_,?_⟩,?_,?_,?_⟩,had_step hHt hy hn hH2,mis_step hg hHt hMt hy hn hM2⟩
     all_goals simp [e28,e29,e30,e7,e8,o7,o8,e67,e68]
    all_goals simp [e28,e29,e30,e7,e8,o7,o8,e67,e68,e69,f16,g16,f17,qA]
   all_goals simp [e28,e29,e30,e7,e8,o7,o8,e67,e68,e69,qA]
 ·have ga:¬ (i:Int)<T.length:=by omega
  have hiT:i=T.length:=by omega
  subst hiT;simp [gE,-V,-y4,-y3,y0,e68,e69];refine hk _ _ ⟨rfl,H',M',⟨?_,?_,?_,?_,?_,?_,?_⟩,hHt,hMt⟩
  all_goals simp [e28,e29,e30,e7,e8,o7,o8]
theorem preused_ev {nl:Bool} {L:List Rt} (hL:∀ x∈L,x.1.fine) (hG:∀ x∈L,iR x.1.types/\x.1.types.length<=1000) (hl:L.length<=8) (na:∀ x∈L,x.ok):cE AZ (cE dA eA) 48 [.sl nl (L.map wH)] none=some (XN (Rb L) 0 L,none):=by
 have hv:=KY (by decide) (hvalid_ev nl L hl na);refine qM AD rfl rfl ?_ (by rfl);obtain ⟨R,hR⟩:∃ R,XN (Rb L) 0 L=R:=⟨_,rfl⟩;rw [hR];simp [AD,-V,-y4,-y3,y0,hv];refine TN L.length (fun k s=>∃ H M:List NK,PvI nl L 4 k H M s/\HadI L k H/\MisI L k M/\XN (Rb L) k (L.drop k)=R)
  (fun e s=>(e=.exit 0/\R=.tup [.int .i64 0,.str (ByteArray.mk #[]),.int .i64 0,.int .i64 15])\/(e=.ret/\∃ (k:Nat) (nm:ByteArray) (id:Int),R=.tup [.int .i64 k,.str nm,.int .i64 id,.int .i64 0]/\(s.env 2).v=.int .i64 k/\(s.env 3).v=.str nm/\(s.env 4).v=.int .i64 id/\(s.env 5).v=.int .i64 0)) (fun k wg s kk h ih hk=>?_) _ _ ⟨[],[],⟨?_,?_,?_,?_,?_,?_,?_⟩,had_nil,mis_nil,hR⟩ (fun e s h=>?_)
 case refine_1 =>
  obtain ⟨H,M,⟨e28,e29,e30,e7,e8,o7,o8⟩,hH,hM,hd⟩:=h;refine tA ?_;by_cases fa:k<L.length
  ·have ga:(k:Int)<L.length:=by omega
   have hw:=GA (i:=k);have hx:L[k]?=some L[k]:=y5 fa;have g1:(L.map wH)[k]?=some (wH L[k]):=by rw [ye,hx]; rfl
   obtain ⟨hg,jy⟩:=hG L[k] (y7 fa);have hT:=(hL L[k] (y7 fa)).2;have ld:=fun H'=>had_next (H:=H') hx hg
   have zp:=fun M'=>mis_next (M:=M') hx hg
   rw [y8 fa,XN] at hd;generalize L[k]=x at *
   obtain ⟨⟨xnl,T⟩,xt⟩:=x;dsimp only at hg jy hT ld zp hd;simp only [wH,nL] at g1;simp [EH,-V,-y4,-y3,y0,e28,e29,e30,ga,g1];refine pru_ty (nl:=nl) (L:=L) (n0:=4) (k:=k) (H:=H) (M:=M) (xnl:=xnl) (T:=T) (xt:=xt) (n10:=s.next + 1) hM hg hT jy _ ⟨⟨?_,?_,?_,?_,?_,?_,?_⟩,?_,?_,?_,?_,?_,?_⟩ _ (fun s' f1 f10 g10 f2=>?_) (fun s' nm id f1 f2 f3 f4 f5=>?_)
   case refine_14 =>
    obtain ⟨e28,e29,e30,e7,e8,o7,o8⟩:=f1;rw [f2] at hd;simp [-V,-y4,-y3,y0,f10,g10];refine pru_upd (nl:=nl) (L:=L) (n0:=4) (k:=k) (H:=H) (M:=M) (xnl:=xnl) (T:=T) hH hM hg hT jy _ ⟨⟨?_,?_,?_,?_,?_,?_,?_⟩,?_,?_,?_⟩ _ (fun s'' H' M' f3 f4 f5=>?_)
    case refine_11 =>
     obtain ⟨e28,e29,e30,e7,e8,o7,o8⟩:=f3;simp [-V,-y4,-y3,y0,e30,hw];refine ih fa _ ⟨H',M',⟨?_,?_,?_,?_,?_,?_,?_⟩,ld H' f4,zp M' f5,hd⟩
     all_goals simp [e28,e29,e7,e8,o7,o8]
    all_goals simp [e28,e29,e30,e7,e8,o7,o8]
   case refine_15 =>
    rw [f1] at hd;simp [-V,-y4,-y3,y0];exact hk _ _ (.inr ⟨rfl,k,nm,id,hd.symm,f2,f3,f4,f5⟩)
   all_goals simp [e28,e29,e30,e7,e8,o7,o8]
  ·have ga:¬ (k:Int)<L.length:=by omega
   rw [yc (by omega),XN] at hd;simp [EH,-V,-y4,-y3,y0,e29,e30,ga];exact hk _ _ (.inl ⟨rfl,hd.symm⟩)
 case refine_9 =>
  rcases h with ⟨rfl,rfl⟩ | ⟨rfl,k,nm,id,rfl,h2,h3,h4,h5⟩
  ·simp [-V,-y4,-y3,y0]
  ·simp [-V,-y4,-y3,y0,h2,h3,h4,h5]
 all_goals simp
theorem IY (f:Nat->ByteArray->Int->Bool):∀ (L:List Rt) (k:Nat),∃ a nm id e,XN f k L=.tup [.int .i64 a,.str nm,.int .i64 id,.int .i64 e]
 | [],_=>⟨_,_,_,_,rfl⟩
 | x :: r,k=>by
  rw [XN];split
  ·exact ⟨_,_,_,_,rfl⟩
  ·exact IY f r (k + 1)
theorem J3 {dn cn:Bool} {l:List jC} {css:List Chs} {T:Int} (h:HistOk l css T):evR 12 [.agg (WV dn l cn css T)] (.bool true):=by
 refine qM BC rfl rfl ?_ (by rfl);have nv:=bM IS LW;obtain ⟨r,hr,hof⟩:=of24_ev (dn:=dn) (cn:=cn) h;have hof:=bM IS (bM zX hof);rcases hr with rfl | ⟨L,l1,l5,hL,rfl⟩
 ·simp only [WV,badR] at hof ⊢;simp [BC,-V,-y4,-y3,y0,hof,nv]
 ·have na:∀ x∈L,x.ok:=fun x hx=>(hL x hx).ok
  have mh:∀ x∈L,x.1.fine:=fun x hx=>by
   obtain ⟨l,hl,e,_⟩:=hL x hx;rw [e];exact (F3 hl).fine
  have hG:∀ x∈L,iR x.1.types/\x.1.types.length<=1000:=fun x hx=>by
   obtain ⟨l,hl,e,_⟩:=hL x hx;rw [e];have im:=(simF (F3 hl) (F3 hl)).wl;dsimp only at im ⊢;exact ⟨valid_goodT (QQ hl (iL l)),by omega⟩
  have f1:=preused_ev (nl:=false) mh hG (by omega) na;have f2:=ev_R (I9 (nl:=false) mh (by omega) na);obtain ⟨a,nm,id,e,hR⟩:=IY (Rb L) L 0;rw [hR] at f1 f2;have f1':evR 48 [.sl false (L.map wH)] (.tup [.int .i64 a,.str nm,.int .i64 id,.int .i64 e]):=by
   have hT:dA 48=none:=by kernel_rfl
   refine pF.2 ⟨0,?_⟩;unfold jD;rw [hT];dsimp only;unfold DR;rw [if_pos rfl];exact f1
  simp only [evR,WV] at f1' f2 hof nv ⊢;simp [BC,-V,-y4,-y3,y0,hof,nv,f1',f2]
end Go.Proofs.YtbnlmgncbgaepaaGreat
