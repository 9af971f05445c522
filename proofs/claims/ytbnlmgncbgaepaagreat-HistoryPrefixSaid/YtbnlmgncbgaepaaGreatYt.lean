/- A part of the proof. -/
import Derived.Test.YtbnlmgncbgaepaaGreatYm
import Derived.Test.YtbnlmgncbgaepaaGreatYs
import Derived.Shelf.SlSortCmp.NoneTotal
import Derived.Deep.QuietTactic
import Derived.BigQuiet
set_option linter.all false
set_option maxRecDepth 100000
set_option maxHeartbeats 8000000
open Option renaming bind_some → V
open List renaming range_succ → J, map_map → y0, getElem?_eq_getElem → y4, getElem_mem → y6, drop_eq_getElem_cons → y9, getElem?_eq_some_iff → yb, getElem?_map → yc, replicate → yg, mem_cons → yh, mem_cons_self → yl, map_congr_left → ym, length_map → yo, length_append → yp, mem_cons_of_mem → yr, map_nil → yt, mem_append → yw, length_take → yz, take_of_length_le → yD, length_cons → yE, take_append_getElem → yI, map_take → yM, append_nil → yN, mem_singleton → yO, getElem?_eq_none → yP, getElem?_drop → yR, map_append → yU, getElem?_take → yV
open Int renaming toNat_lt → y3, tmod_eq_emod_of_nonneg → yy, emod_nonneg → yL, emod_lt_of_pos → yQ
open Bool renaming and_eq_true → y8, false_eq_true → yq
open Nat renaming le_refl → yn, succ_mul → yu, le_trans → yC, lt_of_lt_of_le → yZ
namespace Go.Proofs.YtbnlmgncbgaepaaGreat
open Go

section
open Go Go.RowKit Go.ChangeShapes Go.WideShapes
theorem mixed:Tryz.prog.follows .mixedOrders=true:=by kernel_rfl
theorem u8_of {n:Int} (h:(Lit.int .u8 n).wf=true):u8 n:=by
 simp only [Lit.wf,y8,decide_eq_true_eq] at h;have h1:IntKind.u8.min=0:=rfl;have h2:IntKind.u8.max=255:=rfl;exact ⟨by omega,by omega⟩
theorem zT {H:Type} {P:Program} {m:Nat}:∀ {ts us:List TypeId} {ds gs:List (DataW H)},m∈DataW.weightsEach P ts ds->ts.length=ds.length->m∈DataW.weightsEach P (ts++us) (ds++gs)
 | [],_,[],_,h,_=>by simp [DataW.weightsEach] at h
 | [],_,_ :: _,_,_,h=>by simp at h
 | _ :: _,_,[],_,_,h=>by simp at h
 | t :: ts,us,d :: ds,gs,h,hl=>by
  simp only [DataW.weightsEach,yw,List.cons_append] at h ⊢;rcases h with h | h
  ·exact .inl h
  ·exact .inr (zT h (by simpa using hl))
theorem dX {α:Type} {P:List AV->Prop} {f:α->List AV} {p:α->Prop} (h:∀ x,P x->∃ o,x=f o/\p o):∀ els:List (List AV),(∀ x∈els,P x)->∃ L:List α,els=L.map f/\∀ o∈L,p o
 | [],_=>⟨[],rfl,fun _ h=>by cases h⟩
 | x :: r,hx=>by
  obtain ⟨L,h1,h2⟩:=dX h r fun y hy=>hx y (yr _ hy)
  obtain ⟨o,h3,h4⟩:=h x (hx x yl);refine ⟨o :: L,by rw [h1,h3]; rfl,fun y hy=>?_⟩;rcases yh.1 hy with rfl | hy
  ·exact h4
  ·exact h2 y hy
theorem bytesNode:Tryz.prog.bytesOf 127=32:=by kernel_rfl
theorem bytesPart:Tryz.prog.bytesOf 165=3:=by kernel_rfl
theorem reachB:reachBytes=140737488351232:=rfl
section
variable {n:Nat} {a:List AV}
include n a
theorem tyU (h:lM Tryz.prog n 5 a):∃ x,a=[.int .u8 x]/\u8 x:=by
 cases n with
 | zero=>exact h.elim
 | succ n =>
  simp only [lM,Tryz.underlying5] at h;obtain ⟨x,rfl,hx⟩:=h;exact ⟨x,rfl,u8_of hx⟩
theorem tyPart (h:lM Tryz.prog n 165 a):∃ p:KP,a=GD p/\p.ok:=by
 cases n with
 | zero=>exact h.elim
 | succ n =>
  simp only [lM,Tryz.underlying165,NO] at h;obtain ⟨_,_,rfl,_,h1,_,_,rfl,_,h2,_,_,rfl,_,h3,rfl⟩:=h;obtain ⟨x1,rfl,u1⟩:=tyU h1;obtain ⟨x2,rfl,u2⟩:=tyU h2;obtain ⟨x3,rfl,u3⟩:=tyU h3;exact ⟨⟨x1,x2,x3⟩,rfl,u1,u2,u3⟩
theorem tyChg (h:lM Tryz.prog n 162 a):∃ c:G1,a=OY c/\c.ok:=by
 cases n with
 | zero=>exact h.elim
 | succ n =>
  simp only [lM,Tryz.underlying162,NO] at h;obtain ⟨_,_,rfl,_,h1,_,_,rfl,_,h2,_,_,rfl,_,h3,_,_,rfl,_,h4,rfl⟩:=h;obtain ⟨x1,rfl,u1⟩:=tyU h1;obtain ⟨x2,rfl,u2⟩:=tyU h2;obtain ⟨x3,rfl,u3⟩:=tyU h3;obtain ⟨x4,rfl,u4⟩:=tyU h4;exact ⟨⟨x1,x2,x3,x4⟩,rfl,u1,u2,u3,u4⟩
theorem tyParts (h:lM Tryz.prog n 125 a):∃ nl,∃ ps:List KP,a=[.sl nl (ps.map GD)]/\(∀ p∈ps,p.ok)/\ps.length * 3<=140737488351232:=by
 cases n with
 | zero=>exact h.elim
 | succ n =>
  simp only [lM,Tryz.underlying125,bytesPart,reachB] at h;obtain ⟨nl,els,rfl,_,h2,_,h4⟩:=h;obtain ⟨L,rfl,hL⟩:=dX (P:=fun x=>lM Tryz.prog n 165 x) (fun x hx=>tyPart hx) els (fun x hx=>(h4 x hx).2);exact ⟨nl,L,rfl,hL,by simpa using h2⟩
theorem tyChgs (h:lM Tryz.prog n 25 a):∃ nl,∃ ps:List G1,a=[.sl nl (ps.map OY)]/\(∀ p∈ps,p.ok)/\ps.length<=9223372036854775807:=by
 cases n with
 | zero=>exact h.elim
 | succ n =>
  simp only [lM,Tryz.underlying25] at h;obtain ⟨nl,els,rfl,h1,_,_,h4⟩:=h;obtain ⟨L,rfl,hL⟩:=dX (P:=fun x=>lM Tryz.prog n 162 x) (fun x hx=>tyChg hx) els (fun x hx=>(h4 x hx).2);exact ⟨nl,L,rfl,hL,by simpa [maxLen] using h1⟩
theorem tyNode (h:lM Tryz.prog n 127 a):∃ x:jC,a=HC x/\x.ok/\x.sized:=by
 cases n with
 | zero=>exact h.elim
 | succ n =>
  simp only [lM,Tryz.underlying127,NO] at h;obtain ⟨_,_,rfl,_,h1,_,_,rfl,_,h2,_,_,rfl,_,h3,_,_,rfl,_,h4,_,_,rfl,_,h5,rfl⟩:=h;obtain ⟨x1,rfl,u1⟩:=tyU h1;obtain ⟨x2,rfl,u2⟩:=tyU h2;obtain ⟨x3,rfl,u3⟩:=tyU h3;obtain ⟨x4,rfl,u4⟩:=tyU h4;obtain ⟨nl,ps,rfl,p1,p2⟩:=tyParts h5;exact ⟨⟨x1,x2,x3,x4,nl,ps⟩,rfl,⟨u1,u2,u3,u4,by dsimp only; omega,p1⟩,by unfold jC.sized; dsimp only; omega⟩
theorem tyDraft (h:lM Tryz.prog n 24 a):∃ nl,∃ l:List jC,a=[.sl nl (l.map HC)]/\(∀ x∈l,x.ok/\x.sized)/\l.length * 32<=140737488351232:=by
 cases n with
 | zero=>exact h.elim
 | succ n =>
  simp only [lM,Tryz.underlying24,NO] at h;obtain ⟨_,_,rfl,_,h1,rfl⟩:=h;cases n with
  | zero=>exact h1.elim
  | succ n =>
   simp only [lM,Tryz.underlying22,bytesNode,reachB] at h1;obtain ⟨nl,els,rfl,_,h2,_,h4⟩:=h1;obtain ⟨L,rfl,hL⟩:=dX (P:=fun x=>lM Tryz.prog n 127 x) (fun x hx=>tyNode hx) els (fun x hx=>(h4 x hx).2);exact ⟨nl,L,rfl,hL,by simpa using h2⟩
end
theorem u8Ty {a:AV} (h:ParT Tryz.prog 5 a):∃ x,a=.int .u8 x/\u8 x:=by
 obtain ⟨n,⟨hw,_⟩ | ⟨_,h⟩⟩:=h
 ·have uc:kM Tryz.prog 5=false:=by kernel_rfl
  rw [uc] at hw;cases hw
 ·obtain ⟨x,e,hx⟩:=tyU h;injection e with e;exact ⟨x,e,hx⟩
end
abbrev Rt:=wI × Int
def BM (x:Rt):List AV:=BD x.1 x.2
def Rt.ok (x:Rt):Prop:=HR x.1 0/\0<=x.2/\x.2<x.1.types.length
theorem KZ (b:Bool) (L:List Rt) (hl:L.length<=8) (hL:∀ x∈L,x.ok):fA 103 [.sl b (L.map BM)] (.int .i64 0):=by
 refine wA (c:=rI) rfl rfl ?_;have h8:¬ (8:Int)<L.length:=by omega
 simp [rI,-V,-y3,-y0,J,h8];refine lA L.length (fun i s=>(s.env 9).v=.sl b (L.map BM)/\(s.env 10).v=.int .i64 L.length/\(s.env 11).v=.int .i64 i)
  (fun e s=>e=.exit 0) (fun i hi s k h ih hk=>?_) _ _ ?_ (fun e s h=>?_)
 ·obtain ⟨e9,e10,e11⟩:=h;refine tA ?_;by_cases fa:i<L.length
  ·have ga:(i:Int)<L.length:=by omega
   have g1:(L.map BM)[i]?=some (BM L[i]):=by simp [fa]
   have hw:=ZA (i:=i);obtain ⟨⟨hx,_⟩,h0,h1⟩:=hL L[i] (y6 _);generalize L[i]=x at *
   obtain ⟨S,t⟩:=x;have nf:¬ t<0:=by dsimp only at h0; omega
   have ol:¬ (S.types.length:Int)<=t:=by dsimp only at h1; omega
   simp only [fA,BM,BD,UA] at g1 hx;simp [mI,-V,-y3,-y0,J,e9,e10,e11,ga,g1,hx,hw,nf,ol];refine ih fa _ ⟨?_,?_,?_⟩
   all_goals simp [e9,e10]
  ·have ga:¬ (i:Int)<L.length:=by omega
   simp [mI,-V,-y3,-y0,J,e10,e11,ga];exact hk _ _ rfl
 ·simp
 ·subst h;simp [-V,-y3,-y0,J]
abbrev Chs:=Bool × List G1
def I9 (c:Chs):List AV:=[.sl c.1 (c.2.map OY)]
def rV (dn:Bool) (l:List jC) (cn:Bool) (css:List Chs) (T:Int):List AV:=[.sl dn (l.map HC),.sl cn (css.map I9),.int .u8 T]
def RtD (x:Rt):Prop:=∃ l,oks l/\x.1=⟨false,RA l⟩/\0<=x.2/\x.2<(RA l).length
structure OhI (dn:Bool) (l:List jC) (cn:Bool) (css:List Chs) (T t:Int) (n4 n8 i:Nat) (L:List Rt) (s:pA):Prop where
 e1:(s.env 1).v=.ptr 1 1 0
 m1:s.mem 1 1=some [⟨.sl dn (l.map HC),.no⟩,⟨.sl cn (css.map I9),.no⟩,⟨.int .u8 T,.no⟩]
 e4:(s.env 4).v=.ptr 4 n4 0
 m4:∃ c,s.mem 4 n4=some [c]
 e8:(s.env 8).v=.ptr 8 n8 0
 m8:∃ (d2:Bool) (l2:List jC),s.mem 8 n8=some [⟨.sl d2 (l2.map HC),.no⟩]/\(∀ x∈l2,x.ok/\x.sized)/\l2.length=l.length
 e6:(s.env 6).v=.int .i64 t
 e7:(s.env 7).v=.sl false (L.map BM)
 a7:(s.env 7).a=.ex\/(s.env 7).a=.own 70 33
 e9:(s.env 9).v=.int .i64 i
theorem els_rt (L:List Rt):gB 2 (L.map BM)=true:=tC _ _ _ fun _=>rfl
def SR (P:RV->Prop) (o:Option RV):Prop:=∃ r,P r/\o=some r
theorem CN {P:RV->Prop} {b:C} {s:pA} {k:Ex->pA->Option RV} (h:SR P (b.run (UF gA eA) (KJ gA eA) s (PJ (TH gA eA) b k))):SR P (TH gA eA b s k):=by
 obtain ⟨r,h1,h2⟩:=h;exact ⟨r,h1,tA h2⟩
def badR:AV:=.tup [.sl true [],.bool false]
theorem of24_in {dn cn:Bool} {l:List jC} {css:List Chs} {T t:Int} {n4 n8:Nat} (hl:1<=l.length/\l.length<=5) (h0:0<=t) (h1:t<l.length) (kj:css.length<=4) (hch:∀ c∈css,(∀ x∈c.2,x.ok)/\c.2.length<=9223372036854775807) (s:pA) (L:List Rt) (hI:OhI dn l cn css T t n4 n8 0 L s) (hL:L.length=1) (hR:∀ x∈L,RtD x) (k:Ex->pA->Option RV) (P:RV->Prop)
  (hk:∀ (L':List Rt) (s':pA),L'.length=css.length + 1->(∀ x∈L',RtD x)->(s'.env 7).v=.sl false (L'.map BM)->SR P (k (.exit 0) s'))
  (hr:∀ s':pA,(s'.env 2).v=.sl true []->(s'.env 3).v=.bool false->SR P (k .ret s')):SR P (TH gA eA pF s k):=by
 have main:∀ m i,i + m=css.length->∀ s L,OhI dn l cn css T t n4 n8 i L s->L.length=i + 1->(∀ x∈L,RtD x)->SR P (TH gA eA pF s k):=by
  intro m
  induction m with
  | zero =>
   intro i hi s L hI hL hR;obtain ⟨e1,m1,e4,m4,e8,m8,e6,e7,a7,e9⟩:=hI;have hic:i=css.length:=by omega
   subst hic;refine CN ?_;simp [pF,-V,-y3,-y0,J,e1,m1,e9];exact hk L _ hL hR (by simp [e7])
  | succ m ih =>
   intro i hi s L hI hL hR;obtain ⟨e1,m1,e4,⟨c4,m4⟩,e8,⟨d2,l2,m8,gn,lf⟩,e6,e7,a7,e9⟩:=hI;have fa:i<css.length:=by omega
   have ga:(i:Int)<css.length:=by omega
   have g1:(css.map I9)[i]?=some (I9 css[i]):=by simp [fa]
   have rf:=hch css[i] (y6 _);have hw:=ZA (i:=i);generalize css[i]=c at *
   simp only [I9] at g1;by_cases h3:3<c.2.length
   ·have h3':(3:Int)<c.2.length:=by omega
    refine CN ?_;simp [pF,-V,-y3,-y0,J,e1,m1,e9,ga,g1,h3',h3];exact hr _ (by simp) (by simp)
   ·obtain ⟨r1,⟨l3,hl3,hl3l,rfl⟩,uv⟩:=G6 (dn:=d2) (cn:=c.1) gn (by omega) rf.1 rf.2;rcases of07_ev (dn:=false) (l:=l3) (fun x hx=>(hl3 x hx).1) with ⟨la,ho⟩ | ⟨_,ho⟩
    ·have h3':¬ (3:Int)<c.2.length:=by omega
     have ja:uB 32 (i + 1 + 1)=true:=by rw [TA]; omega
     have q1:=els_rt L;simp only [fA,OF] at ho uv;have wb:∀ x∈L++[((⟨false,RA l3⟩,t):Rt)],RtD x:=fun x hx=>by
      rcases yw.1 hx with hx | hx
      ·exact hR x hx
      ·rw [yO.1 hx];exact ⟨l3,la,rfl,h0,by simp [RA]; omega⟩
     have hmap:(L++[((⟨false,RA l3⟩,t):Rt)]).map BM=L.map BM++[[.sl false ((RA l3).map rA),.int .i64 t]]:=by simp [BM,BD]
     have zp:=fun s' h=>ih (i + 1) (by omega) s' (L++[((⟨false,RA l3⟩,t):Rt)]) h (by simp [hL]) wb
     generalize RA l3=S3 at *
     refine CN ?_;rcases a7 with a7 | a7
     all_goals
      simp [pF,-V,-y3,-y0,J,e1,m1,e4,m4,e6,e7,a7,e8,m8,e9,ga,g1,h3',uv,ho,hL,ja,q1,QC,hw];refine zp _ ⟨?_,?_,?_,⟨⟨.sl false (S3.map rA),.no⟩,?_⟩,?_,⟨false,l3,?_,hl3,by omega⟩,?_,?_,.inr ?_,?_⟩
      all_goals first | (simp [e1,m1,e4,m4,e6,e8,m8,BM,BD]; done) | (simp; rfl)
    ·have h3':¬ (3:Int)<c.2.length:=by omega
     simp only [fA,OF] at ho uv;refine CN ?_;simp [pF,-V,-y3,-y0,J,e1,m1,e4,m4,e8,m8,e9,ga,g1,h3',uv,ho];exact hr _ (by simp) (by simp)
 exact main css.length 0 (by omega) s L hI hL hR
theorem Z9 {P:RV->Prop} {f:Nat} {c:qB} {args:List AV} (hT:gA f=some c) (hl:args.length=c.np) (hm:UI args=false) (h:SR P (c.code.run (UF gA eA) (KJ gA eA) (pA.init args none) (XN c none))):SR P (UF gA eA f args none):=by
 obtain ⟨r,h1,h2⟩:=h;exact ⟨r,h1,wA hT hl h2 hm⟩
structure j9 (l:List jC) (css:List Chs) (T:Int):Prop where
 nds:∀ x∈l,x.ok/\x.sized
 chs:∀ c∈css,(∀ x∈c.2,x.ok)/\c.2.length<=9223372036854775807
 t:u8 T
def HistR (r:RV):Prop:=r=(badR,none)\/∃ L:List Rt,1<=L.length/\L.length<=5/\(∀ x∈L,RtD x)/\r=(.tup [.sl false (L.map BM),.bool true],none)
theorem of24_ev {dn cn:Bool} {l:List jC} {css:List Chs} {T:Int} (h:j9 l css T):SR HistR (UF gA eA 44 [.agg (rV dn l cn css T)] none):=by
 refine Z9 (c:=tK) rfl rfl rfl ?_;obtain ⟨t0,t1⟩:=h.t;have hwT:IntKind.i64.wrap T=T:=IntWalk.i64_in _ (by omega);rcases of07_ev (dn:=dn) (l:=l) (fun x hx=>(h.nds x hx).1) with ⟨la,ho⟩ | ⟨_,ho⟩
 ·simp only [fA,OF] at ho;by_cases h4:4<css.length
  ·have h4':(4:Int)<css.length:=by omega
   simp [tK,rV,-V,-y3,-y0,J,ho,h4,h4'];exact ⟨_,.inl rfl,rfl⟩
  ·have h4':¬ (4:Int)<css.length:=by omega
   have hS:(RA l).length=l.length:=by simp [RA]
   have p1:=la.1;have p2:=la.2.1;have a0:=yL T (b:=((RA l).length:Int)) (by omega);have a1:=yQ T (b:=((RA l).length:Int)) (by omega);have am:T.tmod (RA l).length=T % (RA l).length:=yy t0;have n1:¬ (RA l)=[]:=fun e=>by rw [e] at hS; simp at hS; omega
   have n2:¬ (RA l).length=0:=by omega
   generalize ht:T % ((RA l).length:Int)=t at *
   have hR:∀ x∈[((⟨false,RA l⟩,t):Rt)],RtD x:=fun x hx=>by
    rw [yO.1 hx];exact ⟨l,la,rfl,a0,by simpa using a1⟩
   simp [tK,rV,-V,-y3,-y0,J,ho,h4',hwT,am,n1,n2];refine of24_in (dn:=dn) (l:=l) (cn:=cn) (css:=css) (T:=T) (t:=t) (n4:=2) (n8:=6) ⟨p1,p2⟩ a0 (by omega) (by omega) h.chs _ [((⟨false,RA l⟩,t):Rt)] ⟨?_,?_,?_,⟨⟨.sl false ((RA l).map rA),.no⟩,?_⟩,?_,⟨dn,l,?_,h.nds,rfl⟩,?_,?_,.inl ?_,?_⟩ rfl hR _ HistR (fun L' s' tq hR' h7=>?_) (fun s' h2 h3=>?_)
   all_goals try (simp [BM,BD]; done)
   ·simp [-V,-y3,-y0,J,h7];exact ⟨_,.inr ⟨L',by omega,by omega,hR',rfl⟩,rfl⟩
   ·simp [-V,-y3,-y0,J,h2,h3];exact ⟨_,.inl rfl,rfl⟩
 ·simp only [fA,OF] at ho;simp [tK,rV,-V,-y3,-y0,J,ho];exact ⟨_,.inl rfl,rfl⟩
section
open Go Go.RowKit Go.ChangeShapes Go.WideShapes
def M9:List TypeId:=[78,76,24,22,127,125,165,25,162,5]
theorem Q7:M9.all (sP Tryz.prog M9)=true:=by kernel_rfl
theorem tyChss {n:Nat} {a:List AV} (h:lM Tryz.prog n 76 a):∃ nl,∃ ps:List Chs,a=[.sl nl (ps.map I9)]/\∀ c∈ps,(∀ x∈c.2,x.ok)/\c.2.length<=9223372036854775807:=by
 cases n with
 | zero=>exact h.elim
 | succ n =>
  simp only [lM,Tryz.underlying76] at h;obtain ⟨nl,els,rfl,_,_,_,h4⟩:=h;obtain ⟨L,rfl,hL⟩:=dX (P:=fun x=>lM Tryz.prog n 25 x) (f:=I9) (p:=fun c=>(∀ x∈c.2,x.ok)/\c.2.length<=9223372036854775807) (fun x hx=>by
   obtain ⟨b,ps,e,h1,h2⟩:=tyChgs hx;exact ⟨(b,ps),e,h1,h2⟩) els (fun x hx=>(h4 x hx).2)
  exact ⟨nl,L,rfl,hL⟩
theorem histTy {a:AV} (h:ParT Tryz.prog 78 a):∃ dn,∃ l:List jC,∃ cn,∃ css:List Chs,∃ T:Int,a=.agg (rV dn l cn css T)/\j9 l css T:=by
 obtain ⟨n,⟨_,c,rfl,h⟩ | ⟨hw,_⟩⟩:=h
 ·cases n with
  | zero=>exact h.elim
  | succ n =>
   simp only [lM,Tryz.underlying78,NO] at h;obtain ⟨_,_,rfl,_,h1,_,_,rfl,_,h2,_,_,rfl,_,h3,rfl⟩:=h;obtain ⟨dn,l,rfl,l1,l2⟩:=tyDraft h1;obtain ⟨cn,css,rfl,c1⟩:=tyChss h2;obtain ⟨T,rfl,u3⟩:=tyU h3;exact ⟨dn,l,cn,css,T,rfl,l1,c1,u3⟩
 ·have uc:kM Tryz.prog 78=true:=by kernel_rfl
  rw [uc] at hw;cases hw
end
def J3 (L:List Rt) (cp:Nat->Nat->Bool):Prop:=∀ i j x y,L[i]?=some x->L[j]?=some y->fA 21 [.agg (BM x),.agg (BM y)] (.tup [.bool (cp i j),.int .i64 0])/\fA 29 [.agg (BM x),.agg (BM y)] (.tup [.bool (cp i j),.int .i64 0])
def OL (cp:Nat->Nat->Bool) (i j:Nat):AV:=.sl (decide (j=0)) ((List.range j).map fun m=>[.bool (cp i m)])
def ZM (cp:Nat->Nat->Bool) (n i j:Nat):List AV:=(List.range n).map fun k=>if k<i then OL cp k n else if k=i then OL cp i j else .sl true []
structure MatI (b:Bool) (L:List Rt) (cp:Nat->Nat->Bool) (n0 i j:Nat) (s:pA):Prop where
 e0:(s.env 0).v=.sl b (L.map BM)
 e5:(s.env 5).v=.ref 19 n0 1 0 L.length L.length
 e20:(s.env 20).v=.sl b (L.map BM)
 e21:(s.env 21).v=.int .i64 L.length
 e22:(s.env 22).v=.int .i64 i
 m:∃ r,s.mem 19 n0=some r/\r.map (·.v)=ZM cp L.length i j/\∀ c,r[i]?=some c->j=0\/c.a=.own 47 4
theorem OZ (f:Nat->Bool) (n:Nat):gB 1 ((List.range n).map fun m=>[AV.bool (f m)])=true:=tC _ _ _ fun _=>rfl
theorem Z0 (cp:Nat->Nat->Bool) (i j:Nat):OL cp i (j + 1)=.sl false (((List.range j).map fun m=>[.bool (cp i m)])++[[.bool (cp i j)]]):=by
 simp [OL,J]
theorem L6 {cp:Nat->Nat->Bool} {n i j:Nat} {r:List qA} (hr:r.map (·.v)=ZM cp n i j) (f:qA->qA) (hf:∀ c,(f c).v=c.v) (a:An) {X:AV} (hX:X=OL cp i (j + 1)):((r.map f).set i ⟨X,a⟩).map (·.v)=ZM cp n i (j + 1):=by
 have h1:(r.map f).map (·.v)=ZM cp n i j:=by
  rw [y0,<- hr];exact ym fun c _=>hf c
 rw [List.map_set,h1,hX];unfold ZM;apply List.ext_getElem?;intro k;by_cases hk:k<n
 ·by_cases hik:i=k
  ·subst hik;simp [hk]
  ·have h2:¬ k=i:=fun e=>hik e.symm
   simp [hk,hik,h2,List.getElem?_set]
 ·have h3:n<=k:=by omega
  rw [yP (by simpa using h3),yP (by simpa using h3)]
theorem mat_in {rv:RV} {b:Bool} {L:List Rt} {cp:Nat->Nat->Bool} (hl:L.length<=8) (hc:J3 L cp) {n0 i:Nat} {x:Rt} (hx:L[i]?=some x) {n7:Nat} (s:pA) (h:MatI b L cp n0 i 0 s) (e6:(s.env 6).v=.int .i64 i) (e7:(s.env 7).v=.ptr 7 n7 0) (m7:s.mem 7 n7=some (eE x.1 x.2)) (dr:(s.env 27).v=.sl b (L.map BM)) (ar:(s.env 28).v=.int .i64 L.length) (fy:(s.env 29).v=.int .i64 0) (kk:Ex->pA->Option RV)
  (hk:∀ s',MatI b L cp n0 i L.length s'->kk (.exit 2) s'=some rv):TH gA eA aE s kk=some rv:=by
 refine lA L.length (fun j s=>MatI b L cp n0 i j s/\(s.env 6).v=.int .i64 i/\(s.env 7).v=.ptr 7 n7 0/\s.mem 7 n7=some (eE x.1 x.2)/\(s.env 27).v=.sl b (L.map BM)/\(s.env 28).v=.int .i64 L.length/\(s.env 29).v=.int .i64 j)
  (fun e s=>e=.exit 2/\MatI b L cp n0 i L.length s) (fun j hj s k' h ih hk=>?_) _ _ ⟨h,e6,e7,m7,dr,ar,fy⟩ (fun e s h=>by obtain ⟨rfl,h1⟩:=h; exact hk _ h1)
 obtain ⟨⟨e0,e5,e20,e21,e22,r,m,hr,ha⟩,e6,e7,m7,dr,ar,fy⟩:=h;refine tA ?_;by_cases fa:j<L.length
 ·have ga:(j:Int)<L.length:=by omega
  have hw:=ZA (i:=j);have og:i<L.length:=(yb.1 hx).1;have g1:(L.map BM)[j]?=some (BM L[j]):=by simp [fa]
  have uy:=(hc i j x L[j] hx (by simp [fa])).1;generalize L[j]=y at *
  generalize hn:L.length=n at *
  have xu:r.length=n:=by rw [<- yo (f:=(·.v)),hr]; simp [ZM]
  have ut:i<r.length:=by omega
  have hcv:r[i].v=OL cp i j:=by
   have h1:(r.map (·.v))[i]?=some (OL cp i j):=by rw [hr]; simp [ZM,og]
   rw [yc,y4 ut] at h1;simpa using h1
  have hca:=ha r[i] (by simp [ut]);simp only [OL] at hcv;simp only [fA,BM,BD] at g1 uy;simp only [eE] at m7;have q1:=OZ (cp i) j;have ja:uB 1 (j + 1)=true:=by rw [TA]; omega
  by_cases hj0:j=0
  ·subst hj0;have bq:0<n:=fa;simp [aE,-V,-y3,-y0,J,e0,e5,e6,e7,m7,e20,e21,e22,dr,ar,fy,bq,g1,uy,hw,m,ut,og,ja,hcv,QC];refine ih fa _ ⟨⟨?_,?_,?_,?_,?_,⟨?r,?hm,?hv,?ha⟩⟩,?_,?_,?_,?_,?_,?_⟩
   case hm=>simp [m,ut]; rfl
   case hv =>
    rw [hn];exact L6 (X:=.sl false [[.bool (cp i 0)]]) hr (qA.strip 47) (fun c=>by cases c; rfl) _ ((Z0 cp i 0).symm)
   case ha =>
    intro c h;right;simp [ut] at h;rw [<- h]
   all_goals try (simp [e0,e5,e6,e7,m7,e20,e21,e22,dr,ar,fy,hn,eE]; done)
   all_goals (simp; rfl)
  ·have hca:=hca.resolve_left hj0;have hd:decide (j=0)=false:=decide_eq_false hj0;rw [hd] at hcv;simp [aE,-V,-y3,-y0,J,e0,e5,e6,e7,m7,e20,e21,e22,dr,ar,fy,ga,g1,uy,hw,m,ut,og,ja,q1,hcv,hca,QC];refine ih fa _ ⟨⟨?_,?_,?_,?_,?_,⟨?r2,?uf,?gp,?ha2⟩⟩,?_,?_,?_,?_,?_,?_⟩
   case uf=>simp [m,ut]; rfl
   case gp =>
    rw [hn];exact L6 hr (qA.strip 47 ∘ qA.strip 47) (fun c=>by cases c; rfl) _ ((Z0 cp i j).symm)
   case ha2 =>
    intro c h;right;simp [ut] at h;rw [<- h]
   all_goals try (simp [e0,e5,e6,e7,m7,e20,e21,e22,dr,ar,fy,hn,eE]; done)
   all_goals (simp; rfl)
 ·have pz:j=L.length:=by omega
  subst pz;simp [aE,-V,-y3,-y0,J,ar,fy];exact hk _ _ ⟨rfl,e0,e5,e20,e21,e22,r,m,hr,ha⟩
theorem cols_next {cp:Nat->Nat->Bool} {n i:Nat}:ZM cp n i n=ZM cp n (i + 1) 0:=by
 unfold ZM;refine ym fun k _=>?_
 by_cases h1:k<i
 ·rw [if_pos h1,if_pos (by omega)]
 ·by_cases h2:k=i
  ·subst h2;rw [if_neg h1,if_pos rfl,if_pos (by omega)]
  ·rw [if_neg h1,if_neg h2,if_neg (by omega)];by_cases h3:k=i + 1
   ·rw [if_pos h3]; simp [OL]
   ·rw [if_neg h3]
def ES (cp:Nat->Nat->Bool) (n:Nat):AV:=.sl false ((List.range n).map fun i=>[OL cp i n])
theorem cols_all {cp:Nat->Nat->Bool} {n j:Nat}:ZM cp n n j=(List.range n).map fun i=>OL cp i n:=by
 unfold ZM;refine ym fun k hk=>?_
 rw [if_pos (List.mem_range.1 hk)]
theorem cols_zero {cp:Nat->Nat->Bool} {n:Nat}:ZM cp n 0 0=yg n (.sl true []):=by
 unfold ZM;rw [ym (g:=fun _=>AV.sl true []) fun k _=>by
  by_cases h:k=0
  ·subst h; simp [OL]
  ·simp [h]]
 rw [List.map_const',List.length_range]
theorem mat_els {cp:Nat->Nat->Bool} {n:Nat} {r:List qA} (hr:r.map (·.v)=(List.range n).map fun i=>OL cp i n):sD r 1 0 n=some ((List.range n).map fun i=>[OL cp i n]):=by
 have hl:r.length=n:=by rw [<- yo (f:=(·.v)),hr]; simp
 have hf:r.all (fun x=>x.v.free0)=true:=by
  have:(r.map (·.v)).all AV.free0=true:=by rw [hr]; simp [OL,AV.free0]
  rw [List.all_map] at this;exact this
 unfold sD;rw [if_pos ⟨by omega,hf⟩];congr 1;refine ym fun i hi=>?_
 have hi:=List.mem_range.1 hi;rw [yM,List.map_drop,hr,show 0 + i * 1=i from by omega,y9 (by simpa using hi)];simp
theorem matrix_ev (b:Bool) {L:List Rt} (h0:0<L.length) (hl:L.length<=8) (hL:∀ x∈L,x.ok) {cp:Nat->Nat->Bool} (hc:J3 L cp):fA 46 [.sl b (L.map BM)] (.tup [ES cp L.length,.int .i64 0]):=by
 refine wA (c:=zE) rfl rfl ?_;have he:=KZ b L hl hL;simp only [fA] at he;have hb24:L.length * 24<=140737488355328:=by omega
 have ry:L.length<=140737488355328:=by omega
 simp [zE,-V,-y3,-y0,J,he,hb24,ry];refine lA L.length (fun i s=>MatI b L cp 4 i 0 s) (fun e s=>e=.exit 0/\MatI b L cp 4 L.length 0 s) (fun i hi s k h ih hk=>?_) _ _ ?_ (fun e s h=>?_)
 ·obtain ⟨e0,e5,e20,e21,e22,r,m,hr,ha⟩:=h;refine tA ?_;by_cases fa:i<L.length
  ·have ga:(i:Int)<L.length:=by omega
   have hw:=ZA (i:=i);have g1:(L.map BM)[i]?=some (BM L[i]):=by simp [fa]
   have hx:L[i]?=some L[i]:=by simp [fa]
   generalize L[i]=x at *
   simp only [BM,BD] at g1;simp [fF,-V,-y3,-y0,J,e0,e20,e21,e22,ga,g1];refine mat_in (b:=b) (n0:=4) (n7:=s.next + 1) hl hc hx _ ⟨?_,?_,?_,?_,?_,⟨r,?_,hr,fun c _=>.inl rfl⟩⟩ ?_ ?_ ?_ ?_ ?_ ?_ _ (fun s' h'=>?_)
   all_goals try (simp [e0,e5,e20,e21,e22,m,eE]; done)
   ·obtain ⟨e0,e5,e20,e21,e22,r,m,hr,ha⟩:=h';rw [cols_next] at hr;simp [-V,-y3,-y0,J,e22,hw];refine ih fa _ ⟨?_,?_,?_,?_,?_,⟨r,?_,hr,fun c _=>.inl rfl⟩⟩
    all_goals simp [e0,e5,e20,e21,m]
  ·have fe:i=L.length:=by omega
   subst fe;simp [fF,-V,-y3,-y0,J,e21,e22];exact hk _ _ ⟨rfl,e0,e5,e20,e21,e22,r,m,hr,ha⟩
 ·refine ⟨?_,?_,?_,?_,?_,⟨_,rfl,?_,fun c _=>.inl rfl⟩⟩
  all_goals try (simp; done)
  simp [cols_zero]
 ·obtain ⟨rfl,e0,e5,e20,e21,e22,r,m,hr,ha⟩:=h;rw [cols_all] at hr;have lc:=mat_els hr;simp [-V,-y3,-y0,J,e5,m,lc,ES]

theorem uW {cp:Nat->Nat->Bool} {n i:Nat} (hi:i<n):((List.range n).map fun i=>[OL cp i n])[i]?=some [OL cp i n]:=by simp [hi]
theorem row_get {cp:Nat->Nat->Bool} {n i j:Nat} (hj:j<n):((List.range n).map fun m=>[AV.bool (cp i m)])[j]?=some [.bool (cp i j)]:=by simp [hj]
def CH (cp:Nat->Nat->Bool) (n k:Nat):Nat->Nat->List Pr
 | 0,_=>[]
 | m + 1,j=>if j<n/\cp (j - 1) j=true then (if cp k j=true then [] else [((k:Int),(j:Int))])++CH cp n k m (j + 1) else []
theorem L9 (cp:Nat->Nat->Bool) {n j:Nat} (k:Nat) (h:j<n):CH cp n k (n - j) j=if j<n/\cp (j - 1) j=true then (if cp k j=true then [] else [((k:Int),(j:Int))])++CH cp n k (n - (j + 1)) (j + 1) else []:=by
 have hm:n - j=(n - (j + 1)) + 1:=by omega
 rw [hm,CH]
def HD (cp:Nat->Nat->Bool) (n:Nat):Nat->List Pr
 | 0=>[]
 | k + 1=>HD cp n k++CH cp n k (n - (k + 1)) (k + 1)
theorem DZ (cp:Nat->Nat->Bool) (n k:Nat):∀ m j,(CH cp n k m j).length<=m
 | 0,_=>by simp [CH]
 | m + 1,j=>by
  have:=DZ cp n k m (j + 1);unfold CH;split
  ·rw [yp];split
   ·simp; omega
   ·simp; omega
  ·simp
theorem DT (cp:Nat->Nat->Bool) (n:Nat):∀ k,(HD cp n k).length<=k * n
 | 0=>by simp [HD]
 | k + 1=>by
  have h1:=DT cp n k;have h2:=DZ cp n k (n - (k + 1)) (k + 1);unfold HD;rw [yp,yu];omega

def uF:C:=.seq (oR [oM 21 8,oM 22 4,oH 23 22,oB 24 .lss 21 23,oM 25 24,oMg 26 4 25 true,oMg 27 8 25 true,oCi 28 .sub 27 1 25 true,oIg 29 1 26 28 25 true,oP 30 29 25 true,oMg 31 8 25 true,oIg 32 1 30 31 25 true,oP 33 32 25 true,oPa 34 25 33] (oD 34 .skip (.exit 2))) (.seq (.block 3 (oR [oM 37 4,oM 38 7,oI 39 1 37 38,oL 40 39,oM 41 8,oI 42 1 40 41,oL 43 42,oU 44 43] (oD 44 (.reg [oM 45 6,oM 46 7,oM 47 8,oS 48 (.build [(.int .i64 0),(.int .i64 0)] [(0,(1,(.t 46))),(1,(1,(.t 47)))]),oS 49 (.bsl [(.int .i64 0),(.int .i64 0)] 1 [(0,(.t 48))]),oS 50 (.appm .any 63 2 16 (.t 45) (.t 49)),oM 6 50]) .skip))) (.reg [oM 35 8,oC 36 .add 35 1,oM 8 36]))
def qN:C:=oR [oB 17 .lss 16 15] (.seq (oD 17 .skip (.exit 0)) (.seq (.block 1 (oR [oM 18 16,oM 7 18] (oR [oM 19 7,oC 20 .add 19 1,oM 8 20] (.block 2 (.loop uF))))) (.reg [oC 51 .add 16 1,oM 16 51])))
def FN:qB:=⟨(oR [oS 2 (.mv (.c (.sl true []))),oJ 3 0] (oR [oM 10 0,oC1 11 46 10,oM 9 11,oX 12 9 0,oX 13 9 1,oM 4 12,oM 5 13] (oR [oS 6 (.mv (.c (.sl true [])))] (.seq (oR [oM 14 4,oH 15 14,oJ 16 0] (.block 0 (.loop qN))) (oR [oM 52 6,oM 53 5,oM 2 52,oM 3 53] .ret))))),[(.tmp 2),(.tmp 3)],1,[101]⟩
def gL:C:=.seq (oR [oM 16 6,oM 17 0,oH 18 17,oB 19 .lss 16 18] (oD 19 .skip (.exit 0))) (.seq (.block 1 (oR [oM 22 0,oM 23 6,oI 24 2 22 23,oA 25 2 24,oY 7 [(.int .i64 0),(.int .i64 0)],oV 2 7 25] (oR [oM 26 1,oA 27 2 7,oS 28 (.callh 42 (.t 26) [(.t 27)]),oU 29 28] (oD 29 (oR [oM 30 0,oM 31 5,oA 32 2 7,oI 33 2 30 31,oV 2 33 32] (.reg [oM 34 5,oC 35 .add 34 1,oM 5 35])) .skip)))) (.reg [oM 20 6,oC 21 .add 20 1,oM 6 21]))
def AL:qB:=⟨(oR [oS 4 (.mv (.c (.sl true [])))] (oR [oM 8 0,oM 9 1,oS 10 (.callh 42 (.c (.fn 94 [])) [(.t 8),(.t 9)]),oM 5 10] (.seq (oR [oM 11 5,oC 12 .eql 11 (-1)] (oD 12 (oR [oM 13 0,oM 4 13] .ret) .skip)) (.seq (oR [oM 14 5,oC 15 .add 14 1,oM 6 15] (.block 0 (.loop gL))) (oR [oM 36 0,oM 37 5,oS 38 (.slc false 2 (.t 36) (.some (.t 37)) .none .none),oN (.clr .any [(.int .i64 0),(.int .i64 0)] (.t 38))] (oR [oM 39 0,oM 40 5,oS 41 (.slc false 2 (.t 39) .none (.some (.t 40)) .none),oM 4 41] .ret)))))),[(.tmp 4)],2,[1000000 + 94,2000026]⟩
def jL:C:=oR [oB 90 .lss 89 88] (.seq (oD 90 .skip (.exit 0)) (.seq (.block 1 (oR [oM 91 89,oM 16 91] (oR [oM 92 8,oM 93 16,oI 94 1 92 93,oL 95 94,oH 96 95,oM 97 5,oH 98 97,oB 99 .neq 96 98,oM 100 99,oMg 101 10 100 false,oMg 102 16 100 false,oIg 103 1 101 102 100 false,oP 104 103 100 false,oMg 105 8 100 false,oMg 106 16 100 false,oIg 107 1 105 106 100 false,oP 108 107 100 false,oG 109 (.load (.root 7) false 1 (.t 7)) 100 false,oG 110 (.slc false 1 (.t 108) .none (.some (.t 109)) .none) 100 false,oCg 111 66 104 110 100 false,oUg 112 111 100 false,oPo 113 100 112] (oD 113 (oR [oZ 4 false] .ret) .skip)))) (.reg [oC 114 .add 89 1,oM 89 114])))
def SL:qB:=⟨(oR [oQ 2 3 0,oZ 4 false] (oR [oA 19 3 2,oC1 20 44 19,oM 18 20,oX 21 18 0,oX 22 18 1,oM 5 21,oM 6 22] (.seq (oR [oS 23 (.call .any 45 []),oU 24 23,oM 25 24,oMg 26 6 25 false,oUg 27 26 25 false,oPo 28 25 27] (oD 28 (oR [oS 29 (.call .any 45 []),oM 4 29] .ret) .skip)) (oR [oM 30 1,oS 31 (.conv (.some .i64) (.t 30)),oM 32 5,oH 33 32,oC 34 .add 33 1,oB 35 .rem 31 34,oY 7 [(.int .i64 0)],oW 7 35] (oR [oM 37 5,oC1 38 46 37,oM 36 38,oX 39 36 0,oX 40 36 1,oM 8 39,oM 9 40] (oR [oM 42 5,oL 43 7,oS 44 (.slc false 2 (.t 42) .none (.some (.t 43)) .none),oC1 45 46 44,oM 41 45,oX 46 41 0,oX 47 41 1,oM 10 46,oM 11 47] (oR [oM 49 5,oS 50 (.callh 121 (.c (.fn 54 [])) [(.t 49)]),oM 48 50,oX 51 48 0,oX 52 48 1,oM 12 51,oM 13 52] (oR [oM 54 5,oL 55 7,oS 56 (.slc false 2 (.t 54) .none (.some (.t 55)) .none),oS 57 (.callh 121 (.c (.fn 54 [])) [(.t 56)]),oM 53 57,oX 58 53 0,oX 59 53 1,oM 14 58,oM 15 59] (.seq (oR [oM 60 9,oC 61 .neq 60 0,oM 62 61,oMg 63 11 62 false,oCi 64 .neq 63 0 62 false,oPo 65 62 64,oM 66 65,oMg 67 13 66 false,oCi 68 .neq 67 0 66 false,oPo 69 66 68,oM 70 69,oMg 71 15 70 false,oCi 72 .neq 71 0 70 false,oPo 73 70 72,oM 74 73,oMg 75 8 74 false,oHg 76 75 74 false,oMg 77 5 74 false,oHg 78 77 74 false,oBg 79 .neq 76 78 74 false,oPo 80 74 79,oM 81 80,oMg 82 10 81 false,oHg 83 82 81 false,oP 84 7 81 false,oBg 85 .neq 83 84 81 false,oPo 86 81 85] (oD 86 (oR [oZ 4 false] .ret) .skip)) (.seq (oR [oM 87 10,oH 88 87,oJ 89 0] (.block 0 (.loop jL))) (oR [oM 115 12,oS 116 (.mkf 68 [(.t 7)]),oS 117 (.callh 121 (.c (.fn 67 [])) [(.t 115),(.t 116)]),oM 17 117] (oR [oM 118 17,oM 119 14,oC2 120 28 118 119,oM 4 120] .ret)))))))))))),[(.tmp 4)],2,[1000000 + 54,1000000 + 67]⟩
theorem N7:nA Tryz.prog 54 FN:=okF Tryz.func54
theorem ok_pre_Del:nA Tryz.prog 67 AL:=okF Tryz.func67
theorem ok_pre_law:nA Tryz.prog 17 SL:=okF Tryz.func17
noncomputable def IR:aB:=fun f args S=>UF gA HT f args S
theorem mixedP:Tryz.prog.follows .mixedOrders=true:=by kernel_rfl
theorem preX_ok {O:uH} (f:Nat) (args:List AV) (S:Option AV) (r:RV) (h:IR f args S=some r):rD Tryz.prog O f args S r :=
 pS mixedP allT_ok hisExt_ok h
def RP:Nat->Option qB
 | 54=>some FN
 | 67=>some AL
 | 94=>some WB
 | 68=>some LC
 | 17=>some SL
 | _=>none
theorem preT_ok (f:Nat) (c:qB) (h:RP f=some c):nA Tryz.prog f c:=by
 unfold RP at h;split at h
 ·injection h with h; subst h; exact N7
 ·injection h with h; subst h; exact ok_pre_Del
 ·injection h with h; subst h; exact NG
 ·injection h with h; subst h; exact mH
 ·injection h with h; subst h; exact ok_pre_law
 ·cases h
abbrev evP (f:Nat) (args:List AV) (v:AV):Prop:=UF RP IR f args none=some (v,none)
theorem ev_P {f:Nat} {args:List AV} {v:AV} (h:evG f args v) (hT:RP f=none:=by rfl):evP f args v:=evC_ext hT h
theorem aP {b:C} {r:RV} (n:Nat) (I:Nat->pA->Prop) (E:Ex->pA->Prop)
  (step:∀ i,i<=n->∀ s k,I i s->(i<n->∀ s',I (i + 1) s'->TH RP IR b s' k=some r)->(∀ e s',E e s'->k e s'=some r)->TH RP IR b s k=some r)
  (s:pA) (k:Ex->pA->Option RV) (h:I 0 s) (hk:∀ e s',E e s'->k e s'=some r):TH RP IR b s k=some r:=by
 have:∀ m i,i + m=n->∀ s,I i s->TH RP IR b s k=some r:=by
  intro m
  induction m with
  | zero=>intro i hi s h; exact step i (by omega) s k h (fun fa=>absurd fa (by omega)) hk
  | succ m ih=>intro i hi s h; exact step i (by omega) s k h (fun _ s' h'=>ih (i + 1) (by omega) s' h') hk
 exact this n 0 (by omega) s h
structure fW (m:Nat) (s0 s:pA):Prop where
 gh:∀ j,lowV m (s0.gh j).v->s.gh j=s0.gh j
 mem:∀ t n r,n<m->s0.mem t n=some r->(∀ x∈r,lowV m x.v)->s.mem t n=some r
 next:m<=s.next
theorem fW.set {m:Nat} {s0:pA} {env:Nat->qA} {mem:Nat->Nat->Option (List qA)} {nx nx':Nat} {obj:Nat->Nat->Option AV} {gh:Nat->qA} (h:fW m s0 ⟨env,mem,nx,obj,gh⟩) {t n:Nat} {r:List qA} (hn:m<=n) (hx:nx<=nx') {env':Nat->qA}:fW m s0 ⟨env',XV mem t n r,nx',obj,gh⟩ :=
 ⟨h.gh,fun t' n' r' hl he hr=>by
  show XV mem t n r t' n'=_;rw [DA,if_neg (by omega)];exact h.mem t' n' r' hl he hr,yC h.next hx⟩
theorem fW.env {m:Nat} {s0:pA} {env:Nat->qA} {mem:Nat->Nat->Option (List qA)} {nx nx':Nat} {obj:Nat->Nat->Option AV} {gh:Nat->qA} (h:fW m s0 ⟨env,mem,nx,obj,gh⟩) (hx:nx<=nx') {env':Nat->qA}:fW m s0 ⟨env',mem,nx',obj,gh⟩ :=
 ⟨h.gh,h.mem,yC h.next hx⟩
theorem fW.kill {m:Nat} {s0:pA} {env:Nat->qA} {mem:Nat->Nat->Option (List qA)} {nx nx':Nat} {obj:Nat->Nat->Option AV} {gh:Nat->qA} (h:fW m s0 ⟨env,mem,nx,obj,gh⟩) {t n:Nat} (hn:m<=n) (hx:nx<=nx') {env':Nat->qA}:fW m s0 ⟨env',pV t n mem,nx',obj,iV t n gh⟩ :=
 ⟨fun j hl=>by
  show (gh j).kill t n=_;have e:gh j=s0.gh j:=h.gh j hl;rw [e];show (⟨(s0.gh j).v.kill t n,(s0.gh j).a⟩:qA)=s0.gh j;rw [wQ hn hl],fun t' n' r' hl he hr=>by
  show pV t n mem t' n'=_;rw [tB,if_neg (by omega)];have hm:mem t' n'=some r':=h.mem t' n' r' hl he hr;rw [hm];have:r'.map (qA.kill t n)=r'.map id:=ym fun x hx=>by
   show (⟨x.v.kill t n,x.a⟩:qA)=x;rw [wQ hn (hr x hx)]
  rw [List.map_id] at this;exact congrArg some this,yC h.next hx⟩

section
open Go Go.RowKit
set_option maxHeartbeats 1000000
end

section
open Go Go.RowKit Go.Sort
set_option maxHeartbeats 1000000
end

theorem T8 (l:List Pr):sD (sA (l.map KB)) 2 0 l.length=some (l.map KB):=by
 have:=nG (NF l) (fS l);simpa using this
theorem U8 (l:List Pr):(sA (l.map KB)).length=l.length * 2:=by
 have:=mG (NF l);simpa using this
def GapV (m:Nat) (l:List Pr) (v:AV) (s:pA):Prop :=
 (l=[]/\v=.sl true [])\/∃ N,l≠[]/\m<=N/\N<s.next/\v=.ref 50 N 2 0 l.length l.length/\s.mem 50 N=some (sA (l.map KB))
theorem GapV.of {m:Nat} {l:List Pr} {v v':AV} {s s':pA} (h:GapV m l v s) (hv:v'=v) (hm:∀ N,s'.mem 50 N=s.mem 50 N) (hn:s.next<=s'.next):GapV m l v' s':=by
 subst hv;rcases h with h | ⟨N,h0,h1,h2,h3,h4⟩
 ·exact .inl h
 ·exact .inr ⟨N,h0,h1,yZ h2 hn,h3,(hm N).trans h4⟩
structure GpI (m:Nat) (s0:pA) (cp:Nat->Nat->Bool) (n k:Nat) (acc:List Pr) (s:pA):Prop where
 e4:(s.env 4).v=ES cp n
 e5:(s.env 5).v=.int .i64 0
 e15:(s.env 15).v=.int .i64 n
 e16:(s.env 16).v=.int .i64 k
 e6:GapV m acc (s.env 6).v s
 a6:acc=[]->(s.env 6).a=.ex
 kept:fW m s0 s
theorem GpI.of {m:Nat} {s0:pA} {cp:Nat->Nat->Bool} {n k k':Nat} {acc:List Pr} {env env':Nat->qA} {mem:Nat->Nat->Option (List qA)} {nx nx':Nat} {obj:Nat->Nat->Option AV} {gh:Nat->qA} (h:GpI m s0 cp n k acc ⟨env,mem,nx,obj,gh⟩) (h4:(env' 4).v=(env 4).v) (h5:(env' 5).v=(env 5).v) (jh:(env' 15).v=(env 15).v) (fx:(env' 16).v=.int .i64 k') (h6:env' 6=env 6) (hx:nx<=nx'):GpI m s0 cp n k' acc ⟨env',mem,nx',obj,gh⟩ :=
 ⟨h4.trans h.e4,h5.trans h.e5,jh.trans h.e15,fx,h.e6.of (congrArg qA.v h6) (fun _=>rfl) hx,fun e=>(congrArg qA.a h6).trans (h.a6 e),h.kept.env hx⟩
theorem hgap_in {rv:RV} {m:Nat} {s0:pA} {n:Nat} {cp:Nat->Nat->Bool} (hl:n<=8) {k:Nat} (nj:k<n) (s:pA) (acc0:List Pr) (h0:acc0.length<=64) (h:GpI m s0 cp n k acc0 s) (eK:(s.env 7).v=.int .i64 k) (eJ:(s.env 8).v=.int .i64 (k + 1:Nat)) (kk:Ex->pA->Option RV)
  (hk:∀ s',GpI m s0 cp n k (acc0++CH cp n k (n - (k + 1)) (k + 1)) s'->kk (.exit 2) s'=some rv):TH RP IR uF s kk=some rv:=by
 refine aP (n - (k + 1)) (fun i s=>(s.env 7).v=.int .i64 k/\(s.env 8).v=.int .i64 (k + 1 + i:Nat)/\∃ acc:List Pr,GpI m s0 cp n k acc s/\acc.length<=64 + i/\acc0++CH cp n k (n - (k + 1)) (k + 1)=acc++CH cp n k (n - (k + 1 + i)) (k + 1 + i))
  (fun e s=>e=.exit 2/\GpI m s0 cp n k (acc0++CH cp n k (n - (k + 1)) (k + 1)) s) (fun i hi s k' h ih hk=>?_) _ _ ⟨eK,eJ,acc0,h,by omega,rfl⟩ (fun e s h=>by obtain ⟨rfl,h⟩:=h; exact hk _ h)
 obtain ⟨env,mem,nx,obj,gh⟩:=s;obtain ⟨eK,eJ,acc,hI,ne,htot⟩:=h;have hI':=hI;obtain ⟨e4,e5,e15,e16,e6,a6,kp⟩:=hI;dsimp only at eK eJ e4 e5 e15 e16 e6 a6;rw [htot] at hk;refine tA ?_;obtain ⟨j,hj⟩:∃ j,j=k + 1 + i:=⟨_,rfl⟩;have hj1:k + 1 + (i + 1)=j + 1:=by omega
 rw [hj1,htot] at ih;rw [<- hj] at eJ hk ih;have pz:j<=n:=by omega
 clear htot;by_cases fa:j<n
 ·have ga:(j:Int)<n:=by omega
  have mz:i<n - (k + 1):=by omega
  have eo:IntKind.i64.wrap ((j:Int) - 1)=((j - 1:Nat):Int):=by rw [IntWalk.i64_in _ (by omega)]; omega
  have hw:=ZA (i:=j);have ja:uB 16 (acc.length + 1)=true:=by rw [TA]; omega
  have g1:=uW (cp:=cp) (n:=n) (i:=j - 1) (by omega);have g2:=row_get (cp:=cp) (n:=n) (i:=j - 1) (j:=j) (by omega);have g3:=uW (cp:=cp) (n:=n) (i:=k) (by omega);have g4:=row_get (cp:=cp) (n:=n) (i:=k) (j:=j) (by omega);simp only [OL] at g1 g3;have gc:((List.range n).map fun i=>[OL cp i n]).length=n:=by simp
  have zw:=e4;simp only [ES,OL] at zw gc;generalize ((List.range n).map fun m=>[AV.bool (cp (j - 1) m)])=ro1 at *
  generalize ((List.range n).map fun m=>[AV.bool (cp k m)])=ro2 at *
  generalize decide (n=0)=z0 at *
  generalize ((List.range n).map fun i=>[AV.sl z0 ((List.range n).map fun m=>[AV.bool (cp i m)])])=ma at *
  rw [L9 cp k fa] at hk ih;generalize pq:cp (j - 1) j=c1 at *
  generalize hc2:cp k j=c2 at *
  cases c1
  ·simp only [fa,true_and,yq,if_false,yN] at hk ih;simp [uF,-V,-y3,-y0,J,zw,gc,e5,eK,eJ,ga,eo,hw,g1,g2,g3,g4];refine hk _ _ ⟨rfl,hI'.of ?_ ?_ ?_ ?_ ?_ ?_⟩
   all_goals first | omega | (simp [e16]; done)
  ·cases c2
   ·simp only [fa,true_and,if_true,yq,if_false,List.singleton_append] at hk ih;rcases e6 with ⟨rfl,e6⟩ | ⟨N,l0,l1,l2,l3,l4⟩
    ·have ja:uB 16 1=true:=by rw [TA]; omega
     have a6:=a6 rfl;simp [uF,-V,-y3,-y0,J,zw,gc,e5,e6,a6,eK,eJ,ga,eo,hw,g1,g2,g3,g4,ja];refine ih mz _ ⟨?_,?_,[((k:Int),(j:Int))],⟨?_,?_,?_,?_,.inr ⟨nx + 1 + 1,?_,?_,?_,?_,?_⟩,?_,?_⟩,?_,?_⟩
     ·simp [eK]
     ·simp
     ·simp [e4]
     ·simp [e5]
     ·simp [e15]
     ·simp [e16]
     ·simp
     ·have:=kp.next; dsimp only at this ⊢; omega
     ·dsimp only; omega
     ·simp
     ·simp [DA,KB]
     ·intro h; cases h
     ·exact kp.set (by have:=kp.next; dsimp only at this; omega) (by omega)
     ·simp; omega
     ·simp
    ·have lc:=T8 acc;dsimp only at l2 l4;simp [uF,-V,-y3,-y0,J,zw,gc,e5,l3,l4,lc,Cl.okMem,eK,eJ,ga,eo,hw,g1,g2,g3,g4,ja];refine ih mz _ ⟨?_,?_,acc++[((k:Int),(j:Int))],⟨?_,?_,?_,?_,.inr ⟨nx + 1 + 1,?_,?_,?_,?_,?_⟩,?_,?_⟩,?_,?_⟩
     ·simp [eK]
     ·simp
     ·simp [e4,ES]
     ·simp [e5]
     ·simp [e15]
     ·simp [e16]
     ·simp
     ·have:=kp.next; dsimp only at this ⊢; omega
     ·dsimp only; omega
     ·simp
     ·simp [DA,KB]
     ·intro h; simp at h
     ·exact (kp.kill (nx':=nx + 1) (env':=env) l1 (by omega)).set (by have:=kp.next; dsimp only at this; omega) (by omega)
     ·simp; omega
     ·simp
   ·simp only [fa,true_and,if_true,List.nil_append] at hk ih;simp [uF,-V,-y3,-y0,J,zw,gc,e5,eK,eJ,ga,eo,hw,g1,g2,g3,g4];refine ih mz _ ⟨?_,?_,acc,hI'.of ?_ ?_ ?_ ?_ ?_ ?_,?_,?_⟩
    all_goals first | omega | (simp [e16,eK]; done) | rfl
 ·have hjn':j=n:=by omega
  have hz:CH cp n k (n - j) j=[]:=by rw [show n - j=0 from by omega]; rfl
  rw [hz,yN] at hk;have ga:¬ (j:Int)<n:=by omega
  have gc:((List.range n).map fun i=>[OL cp i n]).length=n:=by simp
  have zw:=e4;simp only [ES] at zw;generalize ((List.range n).map fun i=>[OL cp i n])=ma at *
  simp [uF,-V,-y3,-y0,J,zw,gc,eJ,ga];refine hk _ _ ⟨rfl,hI'.of ?_ ?_ ?_ ?_ ?_ ?_⟩
  all_goals first | omega | (simp [e16]; done)
theorem J7 (b:Bool):fA 46 [.sl b []] (.tup [.sl false [],.int .i64 0]):=by
 refine wA (c:=zE) rfl rfl ?_;have he:=KZ b [] (by decide) (by simp);simp only [fA,yt] at he;simp [zE,-V,-y3,-y0,J,he];refine lA 0 (fun i s=>(s.env 21).v=.int .i64 0/\(s.env 22).v=.int .i64 i/\(s.env 5).v=.ref 19 4 1 0 0 0/\s.mem 19 4=some []) (fun e s=>e=.exit 0/\(s.env 5).v=.ref 19 4 1 0 0 0/\s.mem 19 4=some []) (fun i hi s k h ih hk=>?_) _ _ ?_ (fun e s h=>?_)
 ·obtain ⟨e21,e22,e5,m⟩:=h;obtain rfl:i=0:=by omega
  refine tA ?_;simp [fF,-V,-y3,-y0,J,e21,e22];exact hk _ _ ⟨rfl,by simp [e5],by simp [m]⟩
 ·refine ⟨?_,?_,?_,?_⟩
  all_goals simp
 ·obtain ⟨rfl,e5,m⟩:=h;simp [-V,-y3,-y0,J,e5,m,sD]
theorem lR (b:Bool) {L:List Rt} (hl:L.length<=8) (hL:∀ x∈L,x.ok) {cp:Nat->Nat->Bool} (hc:J3 L cp):fA 46 [.sl b (L.map BM)] (.tup [ES cp L.length,.int .i64 0]):=by
 cases L with
 | nil=>exact J7 b
 | cons x r=>exact matrix_ev b (by simp) hl hL hc
theorem b7 {b:Bool} {L:List Rt} (hl:L.length<=8) (hL:∀ x∈L,x.ok) {cp:Nat->Nat->Bool} (hc:J3 L cp) {rv:RV} {a1:An} (s0:pA) (k:qA->pA->Option RV)
  (hk:∀ v s',GapV s0.next (HD cp L.length L.length) v s'->fW s0.next s0 s'->k ⟨.tup [v,.int .i64 0],.no⟩ s'=some rv):i7 RP IR 54 [⟨.sl b (L.map BM),a1⟩] s0 k=some rv:=by
 refine zH FN rfl rfl ?_;have he:=ev_P (ev_G (lR b hl hL hc));simp only [evP] at he;have uq:∀ l,ES cp L.length=.sl false l->l.length=L.length:=fun l h=>by injection h with _ h; rw [<- h]; simp
 obtain ⟨ma,dw⟩:∃ ma,ES cp L.length=.sl false ma:=⟨_,rfl⟩;have ia:=uq ma dw;rw [dw] at he;simp [FN,-V,-y3,-y0,J,he,ia];generalize L.length=n at *
 refine aP n (fun k s=>GpI s0.next s0 cp n k (HD cp n k) s)
  (fun e s=>e=.exit 0/\GpI s0.next s0 cp n n (HD cp n n) s) (fun k ak s k' h ih hk=>?_) _ _ ?_ (fun e s h=>?_)
 ·obtain ⟨env,mem,nx,obj,gh⟩:=s;have hI:=h;obtain ⟨e4,e5,e15,e16,e6,a6,kp⟩:=h;dsimp only at e15 e16;refine tA ?_;by_cases fa:k<n
  ·have ga:(k:Int)<n:=by omega
   have hw:=ZA (i:=k);have hb:(HD cp n k).length<=64:=by
    have h1:=DT cp n k;have h2:k * n<=8 * 8:=Nat.mul_le_mul (by omega) hl;omega
   simp [qN,-V,-y3,-y0,J,e15,e16,ga,hw];refine hgap_in hl fa _ (HD cp n k) hb (hI.of ?_ ?_ ?_ ?_ ?_ ?_) ?_ ?_ _ (fun s' h=>?_)
   case refine_9 =>
    obtain ⟨env,mem,nx,obj,gh⟩:=s';have e16:=h.e16;dsimp only at e16;simp [-V,-y3,-y0,J,e16,hw];refine ih fa _ (GpI.of (acc:=HD cp n (k + 1)) (k:=k) h ?_ ?_ ?_ ?_ ?_ ?_)
    all_goals first | omega | (simp; done)
   all_goals first | omega | (simp [e16]; done)
  ·have zr:k=n:=by omega
   subst zr;simp [qN,-V,-y3,-y0,J,e15,e16];refine hk _ _ ⟨rfl,hI.of ?_ ?_ ?_ ?_ ?_ ?_⟩
   all_goals first | omega | (simp [e16]; done)
 ·refine ⟨?_,?_,?_,?_,.inl ⟨rfl,?_⟩,?_,⟨?_,?_,?_⟩⟩
  ·simp [dw]
  ·simp
  ·simp
  ·simp
  ·simp
  ·simp
  ·exact fun j _=>rfl
  ·exact fun t n r _ h _=>h
  ·dsimp only; omega
 ·obtain ⟨env,mem,nx,obj,gh⟩:=s;obtain ⟨rfl,e4,e5,e15,e16,e6,a6,kp⟩:=h;dsimp only at e5;rcases e6 with ⟨hn,e6⟩ | ⟨N,l0,l1,l2,l3,l4⟩
  ·dsimp only at e6;simp [-V,-y3,-y0,J,e5,e6,rL,zO,aL,AV.tupOk];exact hk _ _ (.inl ⟨hn,rfl⟩) (kp.env (by omega))
  ·dsimp only at l3;simp [-V,-y3,-y0,J,e5,l3,rL,zO,aL,AV.tupOk];refine hk _ _ (.inr ⟨N,l0,l1,?_,rfl,l4⟩) (kp.env ?_)
   all_goals (try dsimp only at l2 ⊢); omega
def G9 (k:Nat) (p:Pr):Bool:=!decide ((k:Int)<=p.2)
theorem j7 {cp:Nat->Nat->Bool} {n i:Nat}:∀ m j,∀ p∈CH cp n i m j,(j:Int)<=p.2
 | 0,_=>by simp [CH]
 | m + 1,j=>by
  intro p hp;unfold CH at hp;split at hp
  ·rcases yw.1 hp with h | h
   ·split at h
    ·simp at h
    ·simp at h;subst h;exact Int.le_refl _
   ·have:=j7 m (j + 1) p h;omega
  ·simp at hp
theorem SZ {cp:Nat->Nat->Bool} {n i k:Nat} {m j:Nat} (h:k<=j):(CH cp n i m j).filter (G9 k)=[]:=by
 rw [List.filter_eq_nil_iff];intro p hp;have:=j7 m j p hp;simp [G9];omega
theorem AZ {cp:Nat->Nat->Bool} {n i k:Nat} (hk:k<=n):∀ m m' j,n - j<=m->k - j<=m'->(CH cp n i m j).filter (G9 k)=CH cp k i m' j
 | m,m',j=>fun h h'=>by
  by_cases c:j<k
  ·obtain ⟨a,rfl⟩:∃ a,m=a + 1:=⟨m - 1,by omega⟩;obtain ⟨b,rfl⟩:∃ b,m'=b + 1:=⟨m' - 1,by omega⟩;have ih:=AZ (cp:=cp) (i:=i) hk a b (j + 1) (by omega) (by omega);unfold CH;by_cases d:cp (j - 1) j=true
   ·rw [if_pos (show j<n/\cp (j - 1) j=true from ⟨by omega,d⟩),if_pos (show j<k/\cp (j - 1) j=true from ⟨c,d⟩),List.filter_append,ih];by_cases e:cp i j=true
    ·rw [if_pos e,List.filter_nil]
    ·rw [if_neg e];have:G9 k ((i:Int),(j:Int))=true:=by simp [G9]; omega
     rw [List.filter_cons,if_pos this,List.filter_nil]
   ·rw [if_neg (show ¬ (j<n/\cp (j - 1) j=true) from fun h=>d h.2),if_neg (show ¬ (j<k/\cp (j - 1) j=true) from fun h=>d h.2),List.filter_nil]
  ·rw [SZ (by omega)];cases m' with
   | zero=>rfl
   | succ b=>unfold CH; rw [if_neg (fun h=>c h.1)]
theorem FZ {cp:Nat->Nat->Bool} {n k:Nat} (hk:k<=n):∀ m,(HD cp n m).filter (G9 k)=HD cp k (min m k)
 | 0=>by simp [HD]
 | m + 1=>by
  have ih:=FZ (cp:=cp) hk m;rw [HD,List.filter_append,ih];by_cases c:m<k
  ·rw [AZ hk _ (k - (m + 1)) _ (yn _) (yn _),show min (m + 1) k=m + 1 from by omega,show min m k=m from by omega,HD]
  ·rw [SZ (by omega),yN,show min (m + 1) k=min m k from by omega]
theorem gaps_cut {cp:Nat->Nat->Bool} {n k:Nat} (hk:k<=n):(HD cp n n).filter (G9 k)=HD cp k k:=by
 rw [FZ hk,show min n k=k from by omega]
theorem J3.cut {L:List Rt} {cp:Nat->Nat->Bool} (h:J3 L cp) (k:Nat):J3 (L.take k) cp:=fun i j x y hx hy=>by
 rw [yV] at hx hy;split at hx
 ·split at hy
  ·exact h i j x y hx hy
  ·cases hy
 ·cases hx
structure Same1 (N m:Nat) (s0 s:pA):Prop where
 gh:s.gh=s0.gh
 mem:∀ t n,n<m->¬ (t=50/\n=N)->s.mem t n=s0.mem t n
 next:m<=s.next
structure zW (m:Nat) (s0 s:pA):Prop where
 gh:s.gh=s0.gh
 mem:∀ t n,n<m->s.mem t n=s0.mem t n
 next:m<=s.next
theorem cutf_ev {rv:RV} {p:Pr} {kz:Int} {n7:Nat} {an a1 a2:An} (s0:pA) (h7:n7<s0.next) (m7:s0.mem 7 n7=some [⟨.int .i64 kz,an⟩]) (k:qA->pA->Option RV)
  (hk:∀ s',zW s0.next s0 s'->k ⟨.bool (decide (kz<=p.2)),.no⟩ s'=some rv):i7 RP IR 68 [⟨.agg [.int .i64 p.1,.int .i64 p.2],a1⟩,⟨.ptr 7 n7 0,a2⟩] s0 k=some rv:=by
 refine zH LC rfl rfl ?_;simp [LC,-V,-y3,-y0,J,m7,rL,zO,aL];refine hk _ ⟨?_,?_,?_⟩
 ·rfl
 ·intro t n hn;dsimp only;rw [DA,if_neg (by omega)]
 ·dsimp only; omega
theorem cutx_ev {rv:RV} {l:List Pr} (hl:l.length<=1000) {kz:Int} {N n7:Nat} {an a1 a2:An} (s0:pA) (hN:N<s0.next) (mN:s0.mem 50 N=some (sA (l.map KB))) (h7:n7<s0.next) (m7:s0.mem 7 n7=some [⟨.int .i64 kz,an⟩]) (k:qA->pA->Option RV)
  (jc:∀ s',zW s0.next s0 s'->(∀ p∈l,¬ kz<=p.2)->k ⟨.int .i64 (-1),.no⟩ s'=some rv)
  (sf:∀ s' (i:Nat) (p:Pr) (a:An),zW s0.next s0 s'->(∀ p∈l.take i,¬ kz<=p.2)->l[i]?=some p->kz<=p.2->k ⟨.int .i64 i,a⟩ s'=some rv) :
  i7 RP IR 94 [⟨.ref 50 N 2 0 l.length l.length,a1⟩,⟨.fn 68 [.ptr 7 n7 0],a2⟩] s0 k=some rv:=by
 refine zH WB rfl rfl ?_;simp [WB,-V,-y3,-y0,J];refine aP l.length (fun i s=>(s.env 0).v=.ref 50 N 2 0 l.length l.length/\(s.env 1).v=.fn 68 [.ptr 7 n7 0]/\(s.env 7).v=.int .i64 l.length/\(s.env 8).v=.int .i64 i/\zW s0.next s0 s/\∀ p∈l.take i,¬ kz<=p.2)
  (fun e s=>(e=.exit 0/\zW s0.next s0 s/\∀ p∈l,¬ kz<=p.2)\/(e=.ret/\∃ (i:Nat) (p:Pr),(s.env 4).v=.int .i64 i/\zW s0.next s0 s/\(∀ p∈l.take i,¬ kz<=p.2)/\l[i]?=some p/\kz<=p.2)) (fun i hi s kk h ih hk=>?_) _ _ ?_ (fun e s h=>?_)
 ·obtain ⟨e0,e1,e7,e8,⟨sg,sm,sn⟩,nc⟩:=h;refine tA ?_;by_cases fa:i<l.length
  ·have ga:(i:Int)<l.length:=by omega
   have hw:=ZA (i:=i);have hp:l[i]?=some l[i]:=y4 fa;have ik:l.take (i + 1)=l.take i++[l[i]]:=(yI fa).symm;generalize l[i]=p at *
   have g1:(l.map KB)[i]?=some [.int .i64 p.1,.int .i64 p.2]:=by simp [hp,KB]
   have mN':s.mem 50 N=some (sA (l.map KB)):=(sm 50 N hN).trans mN;have mq:s.mem 7 n7=some [⟨.int .i64 kz,an⟩]:=(sm 7 n7 h7).trans m7;have bn:=cO (NF l) g1;simp [wD,-V,-y3,-y0,J,-wB,-mA,iB,kB,HA,JA,e0,e1,e7,e8,ga,fa,mN',bn];refine cutf_ev (n7:=n7) (kz:=kz) (an:=an) (p:=p) _ (by dsimp only; omega) (by dsimp only; exact mq) _ (fun s' h'=>?_);obtain ⟨g,m,n⟩:=h';dsimp only at g m n;by_cases c:kz<=p.2
   ·simp [-V,-y3,-y0,J,g,c];refine hk _ _ (.inr ⟨rfl,i,p,?_,⟨?_,?_,?_⟩,nc,hp,c⟩)
    ·simp
    ·simp [bG,sg]
    ·intro t n' zh;dsimp only;rw [m t n' (by omega),sm t n' zh]
    ·dsimp only; omega
   ·simp [-V,-y3,-y0,J,g,c,e8,hw];refine ih fa _ ⟨?_,?_,?_,?_,⟨?_,?_,?_⟩,?_⟩
    ·simp [e0]
    ·simp [e1]
    ·simp [e7]
    ·simp
    ·simp [bG,sg]
    ·intro t n' zh;dsimp only;rw [m t n' (by omega),sm t n' zh]
    ·dsimp only; omega
    ·rw [ik];intro q hq;rcases yw.1 hq with hq | hq
     ·exact nc q hq
     ·rw [yO.1 hq];exact c
  ·have ga:¬ (i:Int)<l.length:=by omega
   rw [yD (by omega)] at nc;simp [wD,-V,-y3,-y0,J,e7,e8,ga];exact hk _ _ (.inl ⟨rfl,⟨sg,sm,by dsimp only; omega⟩,nc⟩)
 ·refine ⟨?_,?_,?_,?_,⟨?_,?_,?_⟩,?_⟩
  ·simp
  ·simp
  ·simp
  ·simp
  ·rfl
  ·intro _ _ _; rfl
  ·dsimp only; omega
  ·simp
 ·rcases h with ⟨rfl,⟨sg,sm,sn⟩,h⟩ | ⟨rfl,i,p,e4,⟨sg,sm,sn⟩,h,hp,c⟩
  ·simp [-V,-y3,-y0,J,rL,zO,aL];exact jc _ ⟨sg,sm,by dsimp only; omega⟩ h
  ·obtain ⟨a,ha⟩:∃ a,s.env 4=⟨.int .i64 i,a⟩:=⟨(s.env 4).a,by rw [<- e4]⟩;simp [-V,-y3,-y0,J,rL,zO,aL,ha];exact sf _ i p a ⟨sg,sm,by (try dsimp only); omega⟩ h hp c
def iK (kz:Int) (p:Pr):Bool:=!decide (kz<=p.2)
theorem cutZ_t {kz:Int} {p:Pr} (h:¬ kz<=p.2):iK kz p=true:=by simp [iK,h]
theorem cutZ_f {kz:Int} {p:Pr} (h:kz<=p.2):iK kz p=false:=by simp [iK,h]
theorem prC_set (M:List Pr) (c:Nat) (p:Pr):(M.map KB).set c (KB p)=(M.set c p).map KB:=(List.map_set).symm
theorem clr_row {M:List Pr} {c n:Nat} (hM:M.length=n) (hc:c<=n):H6 [.int .i64 0,.int .i64 0] (c * 2) (n - c) (sA (M.map KB))=some (sA ((M.take c).map KB++yg (n - c) [.int .i64 0,.int .i64 0])):=by
 have hl:=U8 M;rw [hM] at hl;have hs:sA (M.map KB)=sA ((M.take c).map KB)++sA ((M.drop c).map KB):=by rw [<- wG,<- yU,List.take_append_drop]
 have dq:(sA ((M.take c).map KB)).length=c * 2:=by rw [U8,yz,hM,Nat.min_eq_left hc]
 unfold H6;have h1:c * 2 + (n - c) * [AV.int .i64 0,.int .i64 0].length<=(sA (M.map KB)).length:=by
  rw [hl];simp only [yE,List.length_nil];omega
 rw [if_pos h1,wG,List.drop_of_length_le (by rw [hl]; simp only [yE,List.length_nil]; omega),yN,hs];rw [<- dq,List.take_left]
structure DeI (N n7 m:Nat) (l M:List Pr) (c j:Nat) (s0 s:pA):Prop where
 e0:(s.env 0).v=.ref 50 N 2 0 l.length l.length
 e1:(s.env 1).v=.fn 68 [.ptr 7 n7 0]
 e5:(s.env 5).v=.int .i64 c
 e6:(s.env 6).v=.int .i64 j
 row:s.mem 50 N=some (sA (M.map KB))
 same:Same1 N m s0 s
theorem cut_in {rv:RV} {l:List Pr} (hl:l.length<=1000) {kz:Int} {m N n7:Nat} {an:An} (s0:pA) (hN:N<m) (h7:n7<m) (m7:s0.mem 7 n7=some [⟨.int .i64 kz,an⟩]) {i:Nat} (hi:i<l.length) (s:pA) (h:DeI N n7 m l l i (i + 1) s0 s) (hf:(l.take (i + 1)).filter (iK kz)=l.take i) (k:Ex->pA->Option RV)
  (hk:∀ s' M,M.length=l.length->M.take (l.filter (iK kz)).length=l.filter (iK kz)->(l.filter (iK kz)).length<l.length->DeI N n7 m l M (l.filter (iK kz)).length l.length s0 s'->k (.exit 0) s'=some rv):TH RP IR gL s k=some rv:=by
 refine aP (l.length - (i + 1)) (fun r s=>∃ (M:List Pr) (c:Nat),M.length=l.length/\M.take c=(l.take (i + 1 + r)).filter (iK kz)/\c=((l.take (i + 1 + r)).filter (iK kz)).length/\M.drop (i + 1 + r)=l.drop (i + 1 + r)/\c<i + 1 + r/\DeI N n7 m l M c (i + 1 + r) s0 s)
  (fun e s=>e=.exit 0/\∃ M:List Pr,M.length=l.length/\M.take (l.filter (iK kz)).length=l.filter (iK kz)/\(l.filter (iK kz)).length<l.length/\DeI N n7 m l M (l.filter (iK kz)).length l.length s0 s) (fun r hr s kk h ih hk=>?_) _ _ ⟨l,i,rfl,hf.symm,?_,rfl,by omega,h⟩ (fun e s h=>by obtain ⟨rfl,M,h1,h2,h3,h4⟩:=h; exact hk _ M h1 h2 h3 h4)
 ·obtain ⟨M,c,hM,ht,hc,hd,hcj,⟨e0,e1,e5,e6,row,⟨sg,sm,sn⟩⟩⟩:=h;obtain ⟨j,hj⟩:∃ j,j=i + 1 + r:=⟨_,rfl⟩;have hj1:i + 1 + (r + 1)=j + 1:=by omega
  rw [hj1] at ih;rw [<- hj] at ht hc hd hcj e6;have pz:j<=l.length:=by omega
  refine tA ?_;by_cases fa:j<l.length
  ·have ga:(j:Int)<l.length:=by omega
   have xu:r<l.length - (i + 1):=by omega
   have hw:=ZA (i:=j);have bj:=ZA (i:=c);have hp:l[j]?=some l[j]:=y4 fa;have ik:l.take (j + 1)=l.take j++[l[j]]:=(yI fa).symm;have hpM:M[j]?=some l[j]:=by
    have h1:(M.drop j)[0]?=(l.drop j)[0]?:=by rw [hd]
    rw [yR,yR] at h1;simpa [hp] using h1
   have hd1:M.drop (j + 1)=l.drop (j + 1):=by
    have:=congrArg (List.drop 1) hd
    rwa [List.drop_drop,List.drop_drop] at this
   generalize l[j]=p at *
   have g1:(M.map KB)[j]?=some [.int .i64 p.1,.int .i64 p.2]:=by simp [hpM,KB]
   have mq:s.mem 7 n7=some [⟨.int .i64 kz,an⟩]:=(sm 7 n7 h7 (by omega)).trans m7;have bn:=cO (NF M) g1;have jb:=fun a=>IP (NF M) (k:=c) (by rw [yo]; omega) (c:=[.int .i64 p.1,.int .i64 p.2]) rfl a
   have hse:(M.map KB).set c [.int .i64 p.1,.int .i64 p.2]=(M.set c p).map KB:=prC_set M c p;rw [hse] at jb;have ad:c<l.length:=by omega
   simp [gL,-V,-y3,-y0,J,-wB,-mA,iB,kB,HA,JA,e0,e1,e6,ga,fa,row,bn];refine cutf_ev (n7:=n7) (kz:=kz) (an:=an) (p:=p) _ (by dsimp only; omega) (by dsimp only; rw [DA,if_neg (by omega),DA,if_neg (by omega)]; exact mq) _ (fun s' h'=>?_);obtain ⟨g,mm,n⟩:=h';dsimp only at g mm n;have mb:=mm 7 (s.next + 1) (by omega);have mN:=mm 50 N (by omega);rw [DA,if_pos ⟨rfl,rfl⟩] at mb;rw [DA,if_neg (by omega),DA,if_neg (by omega),row] at mN;have mo:∀ t n,n<m->¬ (t=50/\n=N)->s'.mem t n=s0.mem t n:=fun t n h1 h2=>by
    rw [mm t n (by omega),DA,if_neg (by omega),DA,if_neg (by omega),sm t n h1 h2]
   by_cases cz:kz<=p.2
   ·have hff:(l.take (j + 1)).filter (iK kz)=(l.take j).filter (iK kz):=by rw [ik,List.filter_append,List.filter_cons,if_neg (by rw [cutZ_f cz]; decide),List.filter_nil,yN]
    rw [hff] at ih;simp [-V,-y3,-y0,J,g,cz,e6,hw];refine ih xu _ ⟨M,c,hM,ht,hc,hd1,by omega,⟨?_,?_,?_,?_,?_,⟨?_,?_,?_⟩⟩⟩
    ·simp [e0]
    ·simp [e1]
    ·simp [e5]
    ·simp
    ·exact mN
    ·simp [bG,sg]
    ·exact mo
    ·dsimp only; omega
   ·have hff:(l.take (j + 1)).filter (iK kz)=(l.take j).filter (iK kz)++[p]:=by rw [ik,List.filter_append,List.filter_cons,if_pos (cutZ_t cz),List.filter_nil]
    rw [hff] at ih;simp [-V,-y3,-y0,J,-wB,-mA,iB,kB,HA,JA,g,cz,e0,e1,e5,e6,hw,bj,mb,mN,jb,ad];refine ih xu _ ⟨M.set c p,c + 1,by rw [List.length_set,hM],?_,?_,?_,by omega,⟨?_,?_,?_,?_,?_,⟨?_,?_,?_⟩⟩⟩
    ·rw [<- ht];rw [List.take_succ,List.getElem?_set_self (by omega),List.take_set_of_le (yn c)];rfl
    ·rw [yp,<- hc];rfl
    ·rw [List.drop_set_of_lt (by omega),hd1]
    ·simp [e0]
    ·simp [e1]
    ·simp
    ·simp
    ·simp [DA]
    ·simp [bG,sg]
    ·intro t n h1 h2;dsimp only;rw [DA,if_neg h2];exact mo t n h1 h2
    ·dsimp only; omega
  ·have ga:¬ (j:Int)<l.length:=by omega
   have nh:j=l.length:=by omega
   subst nh;rw [List.take_length] at ht hc;subst hc;simp [gL,-V,-y3,-y0,J,e0,e6];exact hk _ _ ⟨rfl,M,hM,ht,hcj,e0,e1,e5,e6,row,⟨sg,sm,by dsimp only; omega⟩⟩
 ·show i=((l.take (i + 1 + 0)).filter (iK kz)).length;rw [Nat.add_zero,hf,yz];omega
theorem M6 {kz:Int} {l:List Pr} (h:∀ p∈l,¬ kz<=p.2):l.filter (iK kz)=l:=List.filter_eq_self.2 fun p hp=>cutZ_t (h p hp)
theorem del_ev {rv:RV} {l:List Pr} (hl:l.length<=1000) {kz:Int} {N n7:Nat} {an a1 a2:An} (s0:pA) (hN:N<s0.next) (mN:s0.mem 50 N=some (sA (l.map KB))) (h7:n7<s0.next) (m7:s0.mem 7 n7=some [⟨.int .i64 kz,an⟩]) (k:qA->pA->Option RV)
  (hk:∀ s' a B c,Same1 N s0.next s0 s'->s'.mem 50 N=some (sA ((l.filter (iK kz)).map KB++yg B [.int .i64 0,.int .i64 0]))->k ⟨.ref 50 N 2 0 (l.filter (iK kz)).length c,a⟩ s'=some rv) :
  i7 RP IR 67 [⟨.ref 50 N 2 0 l.length l.length,a1⟩,⟨.fn 68 [.ptr 7 n7 0],a2⟩] s0 k=some rv:=by
 refine zH AL rfl rfl ?_;simp [AL,-V,-y3,-y0,J];refine cutx_ev hl (kz:=kz) (an:=an) _ (by dsimp only; omega) (by dsimp only; exact mN) (by dsimp only; omega) (by dsimp only; exact m7) _ (fun s' h nc=>?_) (fun s' i p a h nc hp hc=>?_)
 ·obtain ⟨g,mm,n⟩:=h;dsimp only at g mm n;simp [-V,-y3,-y0,J,g,rL,zO,aL];have:=hk (a:=a1) (B:=0) (c:=l.length);rw [M6 nc] at this;refine this _ ⟨?_,?_,?_⟩ ?_
  ·simp [bG]
  ·intro t n' h1 _;exact mm t n' (by omega)
  ·dsimp only; omega
  ·dsimp only;rw [mm 50 N (by omega),mN];simp
 ·obtain ⟨g,mm,n⟩:=h;dsimp only at g mm n;have hi:i<l.length:=(yb.1 hp).1;have hw:=ZA (i:=i);have oa:((i:Int)=-1)=False:=eq_false (by omega);have ik:l.take (i + 1)=l.take i++[p]:=by rw [List.take_succ,hp]; rfl
  simp [-V,-y3,-y0,J,g,oa,hw];refine cut_in hl (kz:=kz) (m:=s0.next) (N:=N) (n7:=n7) (an:=an) s0 hN h7 m7 hi _ ⟨?_,?_,?_,?_,?_,⟨?_,?_,?_⟩⟩ ?_ _ (fun s'' M hM ht fa hI=>?_)
  ·simp
  ·simp
  ·simp
  ·simp
  ·dsimp only;rw [mm 50 N (by omega),mN]
  ·simp [bG]
  ·intro t n' h1 _;exact mm t n' (by omega)
  ·dsimp only; omega
  ·rw [ik,List.filter_append,List.filter_cons,if_neg (by rw [cutZ_f hc]; decide),List.filter_nil,yN];exact M6 nc
  ·obtain ⟨e0,e1,e5,e6,row,⟨sg,sm,sn⟩⟩:=hI;have rq:=clr_row hM (c:=(l.filter (iK kz)).length) (by omega);rw [ht] at rq;have hk:=fun s' a=>hk s' a (l.length - (l.filter (iK kz)).length) l.length
   generalize l.filter (iK kz)=F at *
   have q1:F.length<=l.length:=by omega
   have q2:(F.length:Int)<=l.length:=by omega
   have q3:¬ l.length=F.length:=by omega
   have q4:0<l.length - F.length:=by omega
   have q5:0<l.length:=by omega
   have q6:F.length<l.length:=fa;simp [-V,-y3,-y0,J,e0,e5,row,rq,q1,q3,q4,q5,q6,Cl.okPtr,rL,zO,aL];refine hk _ _ ⟨?_,?_,?_⟩ ?_
   ·exact sg
   ·intro t n' h1 h2;dsimp only;rw [DA,if_neg h2];exact sm t n' h1 h2
   ·dsimp only; omega
   ·simp [DA]
theorem del_nil {rv:RV} {n7:Nat} {a1 a2:An} (s0:pA) (k:qA->pA->Option RV)
  (hk:∀ s' a,zW s0.next s0 s'->k ⟨.sl true [],a⟩ s'=some rv) :
  i7 RP IR 67 [⟨.sl true [],a1⟩,⟨.fn 68 [.ptr 7 n7 0],a2⟩] s0 k=some rv:=by
 refine zH AL rfl rfl ?_;simp [AL,-V,-y3,-y0,J];refine zH WB rfl rfl ?_;simp [WB,-V,-y3,-y0,J];refine tA ?_;simp [wD,-V,-y3,-y0,J,rL,zO,aL];refine hk _ _ ⟨?_,?_,?_⟩
 ·simp [bG]
 ·intro _ _ _; rfl
 ·dsimp only; omega
theorem RtD.ok {x:Rt} (h:RtD x):x.ok:=by
 obtain ⟨l,hl,e,h0,h1⟩:=h;obtain ⟨S,t⟩:=x;dsimp only at e h0 h1;subst e;exact ⟨JK hl,h0,h1⟩
theorem cmp_ex {x y:Rt} (hx:RtD x) (hy:RtD y):∃ z,fA 21 [.agg (BM x),.agg (BM y)] (.tup [.bool z,.int .i64 0])/\fA 29 [.agg (BM x),.agg (BM y)] (.tup [.bool z,.int .i64 0]):=by
 obtain ⟨l1,o1,e1,a0,a1⟩:=hx;obtain ⟨l2,o2,e2,b0,b1⟩:=hy;obtain ⟨S1,t⟩:=x;obtain ⟨S2,u⟩:=y;dsimp only at e1 e2 a0 a1 b0 b1;subst e1;subst e2;have hF:=simF (draft_F o1) (draft_F o2);have hz:=botE_zero ⟨a0,a1⟩ ⟨b0,b1⟩;have h1:=scompat_ev (JK o1) (JK o2) (i:=t) (k:=u) (fun _=>hF) (by dsimp only; rw [hz]; decide);have h2:=rcompat_ev (JK o1) (JK o2) (i:=t) (k:=u) (fun _=>hF);dsimp only at h1 h2;rw [hz] at h1 h2;exact ⟨_,h1,h2⟩
theorem cmpE_ex {L:List Rt} (hL:∀ x∈L,RtD x):∃ cp,J3 L cp:=by
 classical
 have H:∀ i j,∃ z:Bool,∀ x y,L[i]?=some x->L[j]?=some y->fA 21 [.agg (BM x),.agg (BM y)] (.tup [.bool z,.int .i64 0])/\fA 29 [.agg (BM x),.agg (BM y)] (.tup [.bool z,.int .i64 0]):=fun i j=>by
  by_cases hi:i<L.length
  ·by_cases hj:j<L.length
   ·obtain ⟨z,h1,h2⟩:=cmp_ex (hL L[i] (y6 hi)) (hL L[j] (y6 hj));refine ⟨z,fun x y ex ey=>?_⟩;rw [y4 hi] at ex;rw [y4 hj] at ey;injection ex with ex;injection ey with ey;subst ex;subst ey;exact ⟨h1,h2⟩
   ·exact ⟨true,fun x y _ ey=>by rw [yP (by omega)] at ey; cases ey⟩
  ·exact ⟨true,fun x y ex _=>by rw [yP (by omega)] at ex; cases ex⟩
 exact ⟨fun i j=>(H i j).choose,fun i j x y ex ey=>(H i j).choose_spec x y ex ey⟩
theorem eqb_ev (l:List Bool) (hl:l.length<=1000) (b c:Bool):fA 66 [.sl b (l.map fun x=>[.bool x]),.sl c (l.map fun x=>[.bool x])] (.bool true):=by
 refine wA (c:=xF) rfl rfl ?_;simp [xF,-V,-y3,-y0,J];refine lA l.length (fun i s=>(s.env 0).v=.sl b (l.map fun x=>[.bool x])/\(s.env 1).v=.sl c (l.map fun x=>[.bool x])/\(s.env 12).v=.int .i64 l.length/\(s.env 13).v=.int .i64 i) (fun e s=>e=.exit 0) (fun i hi s k h ih hk=>?_) _ _ ?_ (fun e s h=>?_)
 ·obtain ⟨e0,e1,e12,jj⟩:=h;refine tA ?_;by_cases fa:i<l.length
  ·have ga:(i:Int)<l.length:=by omega
   have g1:(l.map fun x=>[AV.bool x])[i]?=some [.bool l[i]]:=by simp [fa]
   have uc:=ZA (i:=i);generalize l[i]=x at *
   simp [BF,-V,-y3,-y0,J,e0,e1,e12,jj,ga,g1,uc];refine ih fa _ ⟨?_,?_,?_,?_⟩ <;> simp [e0,e1,e12]
  ·have ga:¬ (i:Int)<l.length:=by omega
   simp [BF,-V,-y3,-y0,J,e12,jj,ga];exact hk _ _ rfl
 ·refine ⟨?_,?_,?_,?_⟩ <;> simp
 ·subst h;simp [-V,-y3,-y0,J]
theorem eqrow_ev (cp:Nat->Nat->Bool) (i k:Nat) (hk:k<=8) (b c:Bool):evP 66 [.sl b ((List.range k).map fun m=>[.bool (cp i m)]),.sl c ((List.range k).map fun m=>[.bool (cp i m)])] (.bool true):=by
 have h:=ev_P (ev_G (eqb_ev ((List.range k).map (cp i)) (by simp; omega) b c));rw [y0] at h;exact h
theorem D0 {rv:RV} {cp:Nat->Nat->Bool} {n K n7:Nat} {b:Bool} {L:List (List AV)} (hn:n<=8) (hK:K<=n) (hL:L.length=n) (s:pA) (e5:(s.env 5).v=.sl b L) (e7:(s.env 7).v=.ptr 7 n7 0) {an:An} (m7:s.mem 7 n7=some [⟨.int .i64 K,an⟩]) (e8:(s.env 8).v=ES cp n) (e10:(s.env 10).v=ES cp K) (e88:(s.env 88).v=.int .i64 K) (e89:(s.env 89).v=.int .i64 0) (k:Ex->pA->Option RV)
  (hk:∀ s',(∀ j,j<=14->s'.env j=s.env j)->s'.mem=s.mem->s'.gh=s.gh->s.next<=s'.next->k (.exit 0) s'=some rv):TH RP IR jL s k=some rv:=by
 refine aP K (fun i s'=>(∀ j,j<=14->s'.env j=s.env j)/\s'.mem=s.mem/\s'.gh=s.gh/\s.next<=s'.next/\(s'.env 88).v=.int .i64 K/\(s'.env 89).v=.int .i64 i)
  (fun e s'=>e=.exit 0/\(∀ j,j<=14->s'.env j=s.env j)/\s'.mem=s.mem/\s'.gh=s.gh/\s.next<=s'.next) (fun i hi s' k' h ih hk=>?_) _ _ ⟨fun _ _=>rfl,rfl,rfl,yn _,e88,e89⟩ (fun e s' h=>by obtain ⟨rfl,h1,h2,h3,h4⟩:=h; exact hk _ h1 h2 h3 h4)
 obtain ⟨hE,hM,hG,hN,e88,e89⟩:=h;refine tA ?_;by_cases fa:i<K
 ·have ga:(i:Int)<K:=by omega
  have hw:=ZA (i:=i);have f5:=hE 5 (by decide);have f7:=hE 7 (by decide);have f8:=hE 8 (by decide);have f10:=hE 10 (by decide);have mq:=m7;rw [<- hM] at mq;have g1:=uW (cp:=cp) (n:=n) (i:=i) (by omega);have g3:=uW (cp:=cp) (n:=K) (i:=i) fa;have hq:=eqrow_ev cp i K (by omega) (decide (K=0)) (decide (n=0));simp only [evP] at hq;simp only [OL] at g1 g3;simp only [ES,OL] at e8 e10;have lc:=OZ (cp i) n;have ik:((List.range n).map fun m=>[AV.bool (cp i m)]).take K=(List.range K).map fun m=>[AV.bool (cp i m)]:=by rw [<- yM,List.take_range,Nat.min_eq_left hK]
  have uu:((List.range n).map fun m=>[AV.bool (cp i m)]).length=n:=by simp
  generalize ((List.range n).map fun m=>[AV.bool (cp i m)])=ro1 at *
  generalize ((List.range K).map fun m=>[AV.bool (cp i m)])=ro2 at *
  generalize decide (n=0)=z0 at *
  generalize decide (K=0)=z1 at *
  generalize ((List.range n).map fun i=>[AV.sl z0 ((List.range n).map fun m=>[AV.bool (cp i m)])])=ma at *
  generalize ((List.range K).map fun i=>[AV.sl z1 ((List.range K).map fun m=>[AV.bool (cp i m)])])=mb at *
  simp [jL,-V,-y3,-y0,J,f5,f7,f8,f10,e5,e7,e8,e10,mq,e88,e89,ga,g1,g3,uu,hL,lc,hK,ik,hq,hw];refine ih fa _ ⟨?_,?_,?_,?_,?_,?_⟩
  ·intro j hj;have:∀ i,16<=i->¬ j=i:=fun i hi=>by omega
   simp [this,hE j hj]
  ·exact hM
  ·exact hG
  ·dsimp only; omega
  ·simp [e88]
  ·simp
 ·have ga:¬ (i:Int)<K:=by omega
  simp [jL,-V,-y3,-y0,J,e88,e89,ga];refine hk _ _ ⟨rfl,?_,hM,hG,?_⟩
  ·intro j hj;have:∀ i,16<=i->¬ j=i:=fun i hi=>by omega
   simp [this,hE j hj]
  ·dsimp only; omega
def PsV (l:List Pr) (v:AV):Prop:=(∃ b,v=.sl b (l.map KB))\/v=.bl (l.map KB)
theorem pairs_lent (l:List Pr) (hl:l.length<=1000000) {x y:AV} (hx:PsV l x) (hy:PsV l y):fA 28 [x,y] (.bool true):=by
 refine wA (c:=EK) rfl rfl ?_ (hm:=by rcases hx with ⟨b,rfl⟩ | rfl <;> rfl);have step:∀ i:Nat,i<=l.length->∀ (s:pA) (k:Ex->pA->Option RV),((s.env 0).v=x/\(s.env 1).v=y/\(s.env 5).v=.int .i64 i)->(i<l.length->∀ s',((s'.env 0).v=x/\(s'.env 1).v=y/\(s'.env 5).v=.int .i64 (i + 1:Nat))->TH gA eA cE s' k=some (.bool true,none))->(∀ s',k (.exit 0) s'=some (.bool true,none))->TH gA eA cE s k=some (.bool true,none):=by
  intro i hi s k h ih hk;obtain ⟨e0,e1,e5⟩:=h;refine tA ?_;by_cases fa:i<l.length
  ·have ga:(i:Int)<l.length:=by omega
   have g1:(l.map KB)[i]?=some (KB l[i]):=by simp [fa]
   have hw:=ZA (i:=i);generalize l[i]=q at *
   simp only [KB] at g1;rcases hx with ⟨b,rfl⟩ | rfl <;> rcases hy with ⟨c,rfl⟩ | rfl
   all_goals
    simp [cE,-V,-y3,-y0,J,e0,e1,e5,ga,g1,hw];refine ih fa _ ⟨?_,?_,?_⟩ <;> simp [e0,e1]
  ·have ga:¬ (i:Int)<l.length:=by omega
   rcases hx with ⟨b,rfl⟩ | rfl
   all_goals
    simp [cE,-V,-y3,-y0,J,e0,e5,ga];exact hk _
 have start:∀ s k,((s.env 0).v=x/\(s.env 1).v=y/\(s.env 5).v=.int .i64 (0:Nat))->(∀ s',k (.exit 0) s'=some (.bool true,none))->TH gA eA cE s k=some (.bool true,none):=fun s k h hk =>
  lA l.length (fun i s=>(s.env 0).v=x/\(s.env 1).v=y/\(s.env 5).v=.int .i64 i) (fun e s=>e=.exit 0) (fun i hi s k h ih hk=>step i hi s k h ih (fun s'=>hk _ s' rfl)) s k h (fun e s' h=>by subst h; exact hk s')
 rcases hx with ⟨b,rfl⟩ | rfl <;> rcases hy with ⟨c,rfl⟩ | rfl
 all_goals
  simp [EK,-V,-y3,-y0,J];refine start _ _ ⟨?_,?_,?_⟩ (fun s=>?_)
  all_goals simp [-V,-y3,-y0,J]
theorem hprefix_ev {dn cn:Bool} {l:List jC} {css:List Chs} {T a:Int} (h:j9 l css T) (ha:0<=a/\a<=255):evP 17 [.agg (rV dn l cn css T),.int .u8 a] (.bool true):=by
 refine PT SL rfl rfl ?_ (by rfl);have haw:=ev_P W9;obtain ⟨r,hr,hof⟩:=of24_ev (dn:=dn) (cn:=cn) h;have hof:=evC_ext (T:=RP) (ext:=IR) rfl (SW XW hof);simp only [evP] at haw;rcases hr with rfl | ⟨L,l1,l5,hL,rfl⟩
 ·simp only [rV,badR] at hof ⊢;simp [SL,-V,-y3,-y0,J,hof,haw]
 ·obtain ⟨cp,hc⟩:=cmpE_ex hL;have la:∀ x∈L,x.ok:=fun x hx=>(hL x hx).ok
  obtain ⟨K,hK⟩:∃ K:Nat,a.tmod ((L.length:Int) + 1)=K/\K<=L.length:=by
   refine ⟨a.toNat % (L.length + 1),?_,by have:=Nat.mod_lt a.toNat (show 0<L.length + 1 by omega); omega⟩;rw [yy ha.1,show (L.length:Int) + 1=((L.length + 1:Nat):Int) from rfl];obtain ⟨z,rfl⟩:=Int.eq_ofNat_of_zero_le ha.1;rfl
  obtain ⟨hKa,hKl⟩:=hK;have f1:=ev_P (ev_G (lR false (by omega) la hc));have f2:=ev_P (ev_G (lR false (L:=L.take K) (by rw [yz]; omega) (fun x hx=>la x (List.mem_of_mem_take hx)) (hc.cut K)));have fa:(L.take K).length=K:=by rw [yz]; omega
  rw [fa,yM] at f2;have jk:IntKind.i64.wrap a=a:=IntWalk.i64_in _ (by omega);have dh:=ZA (i:=L.length) (by omega);have hw3:IntKind.i64.wrap (K:Int)=K:=IntWalk.i64_in _ (by omega);have lc:=els_rt L;have hKl':(K:Int)<=L.length:=by omega
  have hmn:∃ M,ES cp L.length=.sl false M/\M.length=L.length:=⟨_,rfl,by simp⟩;have hmk:∃ M,ES cp K=.sl false M/\M.length=K:=⟨_,rfl,by simp⟩;obtain ⟨M1,ft,hn1⟩:=hmn;obtain ⟨M2,uf,hn2⟩:=hmk;have oa:¬ (L.length:Int) + 1=0:=by omega
  simp only [evP,rV,ft,uf] at f1 f2 hof ⊢;simp [SL,-V,-y3,-y0,J,hof,haw,f1,f2,jk,dh,hw3,hKa,lc,hKl,oa];have hg2:=fun rv a1 s0 k hk=>b7 (b:=false) (L:=L.take K) (by rw [fa]; omega) (fun x hx=>la x (List.mem_of_mem_take hx)) (hc.cut K) (rv:=rv) (a1:=a1) s0 k hk
  simp only [fa,yM] at hg2;have xy:(HD cp L.length L.length).filter (iK K)=HD cp K K:=gaps_cut hKl;have gw:(HD cp L.length L.length).length<=1000:=by
   have h1:=DT cp L.length L.length;have h2:L.length * L.length<=5 * 5:=Nat.mul_le_mul l5 l5;omega
  have hgk:(HD cp K K).length<=1000000:=by
   rw [<- xy];exact yC (List.length_filter_le _ _) (by omega)
  have f7:=fun x y hx hy=>ev_P (ev_G (pairs_lent (HD cp K K) hgk (x:=x) (y:=y) hx hy))
  refine b7 (b:=false) (L:=L) (by omega) la hc _ _ (fun v1 s1 hv1 jc=>?_);have m7:s1.mem 7 4=some [⟨.int .i64 K,.no⟩]:=jc.mem 7 4 [⟨.int .i64 K,.no⟩] (show 4<8 by decide) rfl (fun x hx=>by rw [yO.1 hx]; exact fun _ _ _=>rfl);have g5:s1.gh 5=⟨.sl false (L.map BM),.no⟩:=jc.gh 5 (fun _ _ _=>rfl);have g7:s1.gh 7=⟨.ptr 7 4 0,.no⟩:=jc.gh 7 (fC (show 4<8 by decide));have g8:s1.gh 8=⟨.sl false M1,.no⟩:=jc.gh 8 (fun _ _ _=>rfl);have g9:s1.gh 9=⟨.int .i64 0,.no⟩:=jc.gh 9 (fun _ _ _=>rfl);have g10:s1.gh 10=⟨.sl false M2,.no⟩:=jc.gh 10 (fun _ _ _=>rfl);have g11:s1.gh 11=⟨.int .i64 0,.no⟩:=jc.gh 11 (fun _ _ _=>rfl);have n1:8<=s1.next:=jc.next;rcases hv1 with ⟨hv,rfl⟩ | ⟨N,hv,hN1,hN2,rfl,ka⟩
  ·simp [-V,-y3,-y0,J,g5,g7,m7,lc,hKl];refine hg2 _ _ _ _ (fun v2 s2 gp sf=>?_);have mq:s2.mem 7 4=some [⟨.int .i64 K,.no⟩]:=sf.mem 7 4 [⟨.int .i64 K,.no⟩] (by dsimp only; omega) m7 (fun x hx=>by rw [yO.1 hx]; exact fun _ _ _=>rfl);have d5:s2.gh 5=⟨.sl false (L.map BM),.no⟩:=by have:=sf.gh 5; simp [g5] at this; exact this (fun _ _ _=>rfl)
   have d7:s2.gh 7=⟨.ptr 7 4 0,.no⟩:=by have:=sf.gh 7; simp [g7] at this; exact this (fC (by omega))
   have d8:s2.gh 8=⟨.sl false M1,.no⟩:=by have:=sf.gh 8; simp [g8] at this; exact this (fun _ _ _=>rfl)
   have d9:s2.gh 9=⟨.int .i64 0,.no⟩:=by have:=sf.gh 9; simp [g9] at this; exact this (fun _ _ _=>rfl)
   have d10:s2.gh 10=⟨.sl false M2,.no⟩:=by have:=sf.gh 10; simp [g10] at this; exact this (fun _ _ _=>rfl)
   have d11:s2.gh 11=⟨.int .i64 0,.no⟩:=by have:=sf.gh 11; simp [g11] at this; exact this (fun _ _ _=>rfl)
   have gr:=sf.gh 12;have jv:=sf.gh 13;simp at gr jv;have gr:=gr (fun _ _ _=>rfl);have jv:=jv (fun _ _ _=>rfl);have n2:s1.next + 1 + 1<=s2.next:=sf.next;have hG2:HD cp K K=[]:=by rw [<- xy,hv]; rfl
   rw [hG2] at gp f7;rcases gp with ⟨-,rfl⟩ | ⟨N2,hne2,_⟩
   case inr=>exact absurd rfl hne2
   simp [-V,-y3,-y0,J,d5,d7,d8,d9,d10,d11,gr,jv,hn1,hn2,mq];refine D0 (n:=L.length) (K:=K) (n7:=4) (b:=false) (L:=L.map BM) (cp:=cp) (an:=.no) (by omega) hKl (by simp) _ ?_ ?_ ?_ ?_ ?_ ?_ ?_ _ (fun s3 hE hM hG hN=>?_)
   ·simp [d5]
   ·simp [d7]
   ·simp [mq]
   ·simp [d8,ft]
   ·simp [d10,uf]
   ·simp [hn2]
   ·simp
   have x7:=hE 7 (by decide);have x12:=hE 12 (by decide);have x14:=hE 14 (by decide);dsimp only at hM hG hN;simp [d7,gr] at x7 x12 x14;simp [-V,-y3,-y0,J,x7,x12];refine del_nil _ _ (fun s4 a4 h4=>?_);obtain ⟨g,mm,n⟩:=h4;dsimp only at g mm n;have f7:=f7 (.sl true []) (.sl true []) (.inl ⟨_,rfl⟩) (.inl ⟨_,rfl⟩);simp only [evP] at f7;simp [-V,-y3,-y0,J,g,x14,f7]
  ·simp [-V,-y3,-y0,J,g5,g7,m7,lc,hKl];refine hg2 _ _ _ _ (fun v2 s2 gp sf=>?_);have mq:s2.mem 7 4=some [⟨.int .i64 K,.no⟩]:=sf.mem 7 4 [⟨.int .i64 K,.no⟩] (by dsimp only; omega) m7 (fun x hx=>by rw [yO.1 hx]; exact fun _ _ _=>rfl);have d5:s2.gh 5=⟨.sl false (L.map BM),.no⟩:=by have:=sf.gh 5; simp [g5] at this; exact this (fun _ _ _=>rfl)
   have d7:s2.gh 7=⟨.ptr 7 4 0,.no⟩:=by have:=sf.gh 7; simp [g7] at this; exact this (fC (by omega))
   have d8:s2.gh 8=⟨.sl false M1,.no⟩:=by have:=sf.gh 8; simp [g8] at this; exact this (fun _ _ _=>rfl)
   have d9:s2.gh 9=⟨.int .i64 0,.no⟩:=by have:=sf.gh 9; simp [g9] at this; exact this (fun _ _ _=>rfl)
   have d10:s2.gh 10=⟨.sl false M2,.no⟩:=by have:=sf.gh 10; simp [g10] at this; exact this (fun _ _ _=>rfl)
   have d11:s2.gh 11=⟨.int .i64 0,.no⟩:=by have:=sf.gh 11; simp [g11] at this; exact this (fun _ _ _=>rfl)
   have xh:s2.mem 50 N=some (sA ((HD cp L.length L.length).map KB)):=sf.mem 50 N _ (by dsimp only; omega) ka (LD (fS _));have gr:=sf.gh 12;have jv:=sf.gh 13;simp at gr jv;have gr:=gr (cN (by omega));have jv:=jv (fun _ _ _=>rfl);have n2:s1.next + 1 + 1<=s2.next:=sf.next;simp [-V,-y3,-y0,J,d5,d7,d8,d9,d10,d11,gr,jv,hn1,hn2,mq];refine D0 (n:=L.length) (K:=K) (n7:=4) (b:=false) (L:=L.map BM) (cp:=cp) (an:=.no) (by omega) hKl (by simp) _ ?_ ?_ ?_ ?_ ?_ ?_ ?_ _ (fun s3 hE hM hG hN=>?_)
   ·simp [d5]
   ·simp [d7]
   ·simp [mq]
   ·simp [d8,ft]
   ·simp [d10,uf]
   ·simp [hn2]
   ·simp
   have x7:=hE 7 (by decide);have x12:=hE 12 (by decide);have x14:=hE 14 (by decide);dsimp only at hM hG hN;simp [d7,gr] at x7 x12 x14;simp [-V,-y3,-y0,J,x7,x12];refine del_ev gw (kz:=K) (an:=.no) _ (by dsimp only; omega) (by dsimp only; rw [hM]; exact xh) (by dsimp only; omega) (by dsimp only; rw [hM]; exact mq) _ (fun s4 a4 B c4 h4 hr4=>?_);obtain ⟨g,mm,n⟩:=h4;dsimp only at g mm n;rw [xy] at hr4 ⊢;have xu:sD (sA ((HD cp K K).map KB++yg B [.int .i64 0,.int .i64 0])) 2 0 (HD cp K K).length=some ((HD cp K K).map KB):=by
    have h1:((HD cp K K).map KB++yg B [AV.int .i64 0,.int .i64 0])=(HD cp K K++yg B (0,0)).map KB:=by
     rw [yU,List.map_replicate];rfl
    have h2:=OR (NF (HD cp K K++yg B (0,0))) (fS _) (a:=0) (b:=(HD cp K K).length) (by simp);rw [h1];simpa using h2
   rcases gp with ⟨gp,rfl⟩ | ⟨N2,hne2,hN3,hN4,rfl,hrow2⟩
   ·have f7:=f7 (.bl ((HD cp K K).map KB)) (.sl true []) (.inr rfl) (.inl ⟨true,by rw [gp]; rfl⟩);simp only [evP] at f7;simp [-V,-y3,-y0,J,g,x14,f7,hr4,xu]
   ·have hr5:s4.mem 50 N2=some (sA ((HD cp K K).map KB)):=by
     rw [mm 50 N2 (by omega) (by dsimp only at hN3; omega),hM];exact hrow2
    have jg:=T8 (HD cp K K);have f7:=f7 (.bl ((HD cp K K).map KB)) (.bl ((HD cp K K).map KB)) (.inr rfl) (.inr rfl);simp only [evP] at f7;simp [-V,-y3,-y0,J,g,x14,f7,hr4,xu,hr5,jg]
end Go.Proofs.YtbnlmgncbgaepaaGreat
