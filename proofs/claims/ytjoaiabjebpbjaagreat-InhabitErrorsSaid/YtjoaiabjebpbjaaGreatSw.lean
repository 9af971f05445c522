/- A part of the proof. -/
import Derived.Test.YtjoaiabjebpbjaaGreatSd
import Derived.Test.YtjoaiabjebpbjaaGreatSp
import Derived.Test.YtjoaiabjebpbjaaGreatSu
set_option linter.all false
set_option maxRecDepth 100000
set_option maxHeartbeats 8000000
open Option renaming bind_some → V
open List renaming range_succ → J, map_map → y0, drop_eq_getElem_cons → y9, mem_cons → yc, drop_eq_nil_of_le → ye, mem_cons_of_mem → yh, mem_cons_self → yk, length_map → yn, cons_append → yx, mem_append → yE, length_cons → yI
open Int renaming toNat_lt → y3
open Bool renaming and_eq_true → y7
namespace Go.Proofs.YtjoaiabjebpbjaaGreat
open Go
def DZ:Int->List gA->Int
 | a,[]=>a
 | a,t :: r=>DZ (IntKind.i64.wrap (a + t.mems.length)) r
theorem sumM_ge:∀ (l:List gA) (a:Int),0<=a->a + l.length * 8796093022206<=4611686018427387904->(∀ t∈l,t.mems.length<=8796093022206)->a<=DZ a l/\∀ t∈l,a + t.mems.length<=DZ a l
 | [],a,_,_,_=>⟨Int.le_refl _,by simp⟩
 | t :: r,a,h0,h1,h2=>by
  have ht:=h2 t (by simp);simp only [yI] at h1;have hw:IntKind.i64.wrap (a + t.mems.length)=a + t.mems.length:=IntWalk.i64_in _ (by omega);obtain ⟨q1,q2⟩:=sumM_ge r (a + t.mems.length) (by omega) (by omega) fun t' h'=>h2 t' (yh _ h')
  rw [DZ,hw];refine ⟨by omega,fun t' h'=>?_⟩;rcases yc.1 h' with rfl | h'
  ·exact q1
  ·have:=q2 t' h';omega
noncomputable def PU (S:List gA):Bool:=(decide (S.length<=6)&&decide (DZ 0 S<=12))||decide (AB S≠0)
theorem light_few {S:List gA} (h:PU S=true) (h0:AB S=0) (hf:∀ t∈S,t.mems.length<=8796093022206):∀ x∈S,x.mems.length<=12:=fun x hx=>by
 unfold PU at h;simp [h0] at h;have:=(sumM_ge S 0 (by omega) (by omega) hf).2 x hx;omega
section
variable (s:PM) (hs:s.fine) (nb:s.d64)
include s hs nb
theorem light_ev:sA 22 [.agg (JA s)] (.bool (PU s.types)):=by
 have he:=QV s hs nb;simp only [sA,JA] at he;refine wA (c:=CK) rfl rfl ?_;simp [CK,-V,-y3,-y0,J,JA];refine bA s.types.length (fun i σ=>(σ.env 1).v=.ptr 1 1 0/\σ.mem 1 1=some [⟨.sl s.nl (s.types.map eA),.no⟩]/\(∃ a,(σ.env 3).v=.int .i64 a/\DZ a (s.types.drop i)=DZ 0 s.types)/\(σ.env 7).v=.sl s.nl (s.types.map eA)/\(σ.env 8).v=.int .i64 s.types.length/\(σ.env 9).v=.int .i64 i)
  (fun e σ=>e=.exit 0/\(σ.env 1).v=.ptr 1 1 0/\σ.mem 1 1=some [⟨.sl s.nl (s.types.map eA),.no⟩]/\(σ.env 3).v=.int .i64 (DZ 0 s.types)) (fun i hi σ k h ih hk=>?_) _ _ ?_ (fun e σ h=>?_)
 ·obtain ⟨e1,m1,⟨a,e3,gq⟩,e7,e8,e9⟩:=h;refine uA ?_;by_cases fa:i<s.types.length
  ·have ga:(i:Int)<s.types.length:=by omega
   have g1:(s.types.map eA)[i]?=some (eA s.types[i]):=by simp [fa]
   have hw:=LA (i:=i) (by have:=hs.1; omega);rw [y9 fa,DZ] at gq;generalize s.types[i]=x at *
   simp only [eA] at g1;simp [zK,-V,-y3,-y0,J,e3,e7,e8,e9,ga,g1,hw];refine ih fa _ ⟨?_,?_,⟨_,?_,gq⟩,?_,?_,?_⟩
   ·simp [e1]
   ·simp [m1]
   ·simp
   ·simp [e7]
   ·simp [e8]
   ·simp
  ·have ga:¬ (i:Int)<s.types.length:=by omega
   rw [ye (by omega),DZ] at gq;simp [zK,-V,-y3,-y0,J,e8,e9,ga];exact hk _ _ ⟨rfl,by simp [e1],m1,by simp [e3,gq]⟩
 ·refine ⟨?_,?_,⟨0,?_,rfl⟩,?_,?_,?_⟩ <;> simp
 ·obtain ⟨rfl,e1,m1,e3⟩:=h;unfold PU;generalize DZ 0 s.types=z at *
  generalize AB s.types=er at *
  by_cases c1:s.types.length<=6
  ·have gf:(s.types.length:Int)<=6:=by omega
   by_cases c2:z<=12
   ·simp [-V,-y3,-y0,J,e1,m1,e3,c1,gf,c2]
   ·by_cases c3:er=0 <;> simp [-V,-y3,-y0,J,e1,m1,e3,c1,gf,c2,he,c3]
  ·have gf:¬ (s.types.length:Int)<=6:=by omega
   by_cases c3:er=0 <;> simp [-V,-y3,-y0,J,e1,m1,e3,c1,gf,he,c3]
theorem n9 (t:Int) (h:CH s.types t≠0):sA 27 [.agg (JA s),.int .i64 t] (.tup [.bool false,.int .i64 (CH s.types t)])/\sA 28 [.agg (JA s),.int .i64 t] (.tup [.bool false,.int .i64 (CH s.types t)]):=by
 have h1:=AQ s hs nb t;have h2:=tX s hs nb t;generalize CH s.types t=e at *
 simp only [sA,JA] at h1 h2;constructor
 ·refine wA (c:=FE) rfl rfl ?_;simp [FE,-V,-y3,-y0,J,JA,h1,h]
 ·refine wA (c:=rG) rfl rfl ?_;simp [rG,-V,-y3,-y0,J,JA,h2,h]
theorem singleA_ok (t:Int) (h:CH s.types t=0) {w:kE} (ri:sA 63 [.agg (JA s)] (.sl false (QB s.types.length w))) (nh:sA 64 [.agg (JA s)] (.sl false (QB s.types.length w))):sA 27 [.agg (JA s),.int .i64 t] (.tup [.bool (decide (w t.toNat=1)),.int .i64 0])/\sA 28 [.agg (JA s),.int .i64 t] (.tup [.bool (decide (w t.toNat=1)),.int .i64 0]):=by
 have h1:=AQ s hs nb t;have h2:=tX s hs nb t;rw [h] at h1 h2;obtain ⟨h0,fa⟩:0<=t/\t<s.types.length:=by
  unfold CH at h;split at h
  ·rename_i h'; exact absurd h h'
  ·split at h
   ·cases h
   ·omega
 have gw:=qE w (t:=t) (N:=s.types.length) ⟨h0,fa⟩;generalize QB s.types.length w=T at *
 simp only [sA,JA] at h1 h2 ri nh;constructor
 ·refine wA (c:=FE) rfl rfl ?_;simp [FE,-V,-y3,-y0,J,JA,h1,ri,gw,h0]
 ·refine wA (c:=rG) rfl rfl ?_;simp [rG,-V,-y3,-y0,J,JA,h2,nh,gw,h0]
theorem roundsA_ev:∃ r:RV,(∃ b l,r=(.tup [.sl b l,.int .i64 (AB s.types)],none))/\BI kA tA 29 [.agg (JA s)] none=some r:=by
 by_cases h0:AB s.types=0
 ·obtain ⟨b,S⟩:=s;have sf:AB S=0:=h0;refine K2 K6 WD rfl rfl (F:=M9 S) (rounds_run b S hs nb sf) fun e s' h=>?_
  have ae:WD.res=[.tmp 2,.tmp 3]:=rfl;obtain ⟨rfl,t,n,v,e2,e3,h1,h2,hm⟩:=h;have sc:=KQ S.length fun j=>ON (v j)
  exact ⟨(.tup [.sl false (QB S.length fun j=>ON (v j)),.int .i64 0],none),by simp [ae,e2,e3,hm,sc],_,_,by rw [sf]⟩
 ·have hr:=DT s hs nb;simp only [sA,JA] at hr;refine ⟨(.tup [.sl true [],.int .i64 (AB s.types)],none),⟨_,_,rfl⟩,?_⟩;generalize AB s.types=er at *
  refine wA (c:=WD) rfl rfl ?_;simp [WD,-V,-y3,-y0,J,JA,hr,h0]
end
theorem XV (l:List Bool) (hl:l.length<=1000) (b c:Bool):sA 32 [.sl b (l.map fun x=>[.bool x]),.sl c (l.map fun x=>[.bool x])] (.bool true):=by
 refine wA (c:=rL) rfl rfl ?_;simp [rL,-V,-y3,-y0,J];refine bA l.length (fun i s=>(s.env 0).v=.sl b (l.map fun x=>[.bool x])/\(s.env 1).v=.sl c (l.map fun x=>[.bool x])/\(s.env 5).v=.int .i64 i)
  (fun e s=>e=.exit 0) (fun i hi s k h ih hk=>?_) _ _ ?_ (fun e s h=>?_)
 ·obtain ⟨e0,e1,e5⟩:=h;refine uA ?_;by_cases fa:i<l.length
  ·have ga:(i:Int)<l.length:=by omega
   have g1:(l.map fun x=>[AV.bool x])[i]?=some [.bool l[i]]:=by simp [fa]
   have hw:=LA (i:=i);generalize l[i]=x at *
   simp [cK,-V,-y3,-y0,J,e0,e1,e5,ga,g1,hw];refine ih fa _ ⟨?_,?_,?_⟩ <;> simp [e0,e1]
  ·have ga:¬ (i:Int)<l.length:=by omega
   simp [cK,-V,-y3,-y0,J,e0,e5,ga];exact hk _ _ rfl
 ·simp
 ·subst h;simp [-V,-y3,-y0,J]
theorem fine_ok {s:PM} (h:s.fine):s.ok:=⟨h.1,fun t ht=>(h.2 t ht).1⟩
theorem r7 (s:PM) (hs:s.fine) (nb:s.d64):∃ b:Bool,∃ B:List (List AV),sA 23 [.agg (JA s)] (.tup [.sl b B,.int .i64 (AB s.types)])/\sA 24 [.agg (JA s)] (.tup [.sl b B,.int .i64 (AB s.types)])/\sA 32 [.sl b B,.sl b B] (.bool true):=by
 by_cases h0:AB s.types=0
 ·have eo:=eJ h0;have ba:s.types.length<=32:=by
   have:=eo;unfold valid at this;split at this
   ·cases this
   ·omega
  obtain ⟨w,ev,fw,fl,au⟩:=dU s eo;have we:=cU s hs nb fun _=>⟨ev.rng,fl⟩
  have wm:=iS s hs nb fun _=>⟨ev.rng,au⟩
  have du:=XV ((List.range s.types.length).map fun j=>decide (0<w j)) (by simp; omega) (decide (s.types.length=0)) (decide (s.types.length=0));simp only [y0,Function.comp_def] at du;have e2:((List.range s.types.length).map fun j=>[AV.bool (decide (0<w j))])=OP w s.types.length:=rfl;rw [e2] at du;simp only [T7,h0,if_true] at we wm;rw [h0];exact ⟨_,_,we,wm,du⟩
 ·have we:=cU s hs nb (w:=fun _=>0) fun h=>absurd h h0
  have wm:=iS s hs nb (w:=fun _=>0) fun h=>absurd h h0
  simp only [T7,if_neg h0] at we wm;exact ⟨_,_,we,wm,XV [] (by simp) true true⟩
theorem zVal_eq:CW=.agg (pA .zero):=by rw [qA]; rfl
section
variable (s:PM) (hs:s.fine) (nb:s.d64) (hn:∀ x∈s.types,LE x.low/\LE x.high)
include s hs nb hn
theorem both_least (hl:PU s.types=true) (t:Int):∃ (n1 n2 e1 e2:Int) (b:Bool) (v1 v2:Vl),sA 30 [.agg (JA s),.int .i64 t] (.tup [.agg (pA v1),.int .i64 e2])/\sA 31 [.agg (JA s),.int .i64 t] (.tup [.agg (pA v2),.int .i64 e2])/\sA 25 [.agg (JA s),.int .i64 t] (.tup [.int .i64 n1,.int .i64 n2])/\sA 26 [.agg (JA s),.int .i64 t] (.tup [.int .i64 n1,.int .i64 n2])/\sA 27 [.agg (JA s),.int .i64 t] (.tup [.bool b,.int .i64 e1])/\sA 28 [.agg (JA s),.int .i64 t] (.tup [.bool b,.int .i64 e1]):=by
 by_cases h:CH s.types t=0
 ·have h0:AB s.types=0:=by
   unfold CH at h;split at h
   ·rename_i h'; exact absurd h h'
   ·rename_i h'; simpa using h'
  have hS:PD s.types:=PD.of hs nb hn h0;have pb:=light_few hl h0 fun x hx=>(hs.2 x hx).2.2
  obtain ⟨w,ev,fw,fl,au⟩:=dU s (eJ h0);obtain ⟨a1,a2⟩:=singleA_ok s hs nb t h fl au;obtain ⟨e,q0,q1,q2,q3,q4⟩:=B7 s hs nb hS pb t h;simp only [leaR,sizR,zVal_eq] at q1 q2 q3 q4;cases hk:e.known with
  | false =>
   simp only [hk] at q1 q2 q3 q4;simp at q1 q2 q3 q4;exact ⟨_,_,_,_,_,_,_,q1,q2,q3,q4,a1,a2⟩
  | true =>
   cases hg:e.long with
   | true =>
    simp only [hk,hg] at q1 q2 q3 q4;simp at q1 q2 q3 q4;exact ⟨_,_,_,_,_,_,_,q1,q2,q3,q4,a1,a2⟩
   | false =>
    simp only [hk,hg] at q1 q2 q3 q4;simp at q1 q2 q3 q4;exact ⟨_,_,_,_,_,_,_,q1,q2,q3,q4,a1,a2⟩
 ·obtain ⟨q1,q2,q3,q4⟩:=least_err s hs nb t h;rw [zVal_eq] at q1 q2;obtain ⟨a1,a2⟩:=n9 s hs nb t h;exact ⟨_,_,_,_,_,_,_,q1,q2,q3,q4,a1,a2⟩
theorem n7 (t:Int):sA 5 [.agg (JA s),.int .i64 t] (.bool true):=by
 have fu:=cX;have nz:=few_ev s (fine_ok hs);have fa:=light_ev s hs nb;refine wA (c:=kC) rfl rfl ?_;by_cases cf:fewP s=true
 case neg =>
  simp only [sA,JA] at fu nz;simp [kC,-V,-y3,-y0,J,JA,fu,nz,cf]
 by_cases cl:PU s.types=true
 case neg =>
  simp only [sA,JA] at fu nz fa;simp [kC,-V,-y3,-y0,J,JA,fu,nz,fa,cf,cl]
 obtain ⟨es,mo,uz⟩:=both_sound s hs nb;obtain ⟨r,⟨vb,vl,rfl⟩,hr⟩:=roundsA_ev s hs nb;obtain ⟨b,B,hf1,hf2,ph⟩:=r7 s hs nb;obtain ⟨n1,n2,e1,e2,x,v1,v2,l1,l2,z1,z2,g1,g2⟩:=both_least s hs nb hn cl t;simp only [sA,JA,qA v1,qA v2] at fu nz fa mo uz hr hf1 hf2 ph l1 l2 z1 z2 g1 g2;simp [kC,-V,-y3,-y0,J,JA,fu,nz,fa,cf,cl,mo,uz,hr,hf1,hf2,ph,l1,l2,z1,z2,g1,g2]
end
section
open Go Go.RowKit Go.ChangeShapes Go.WideShapes
theorem wU {H:Type} {P:Program} {m:Nat}:∀ {ts us:List TypeId} {ds gs:List (DataW H)},m∈DataW.weightsEach P ts ds->ts.length=ds.length->m∈DataW.weightsEach P (ts++us) (ds++gs)
 | [],_,[],_,h,_=>by simp [DataW.weightsEach] at h
 | [],_,_ :: _,_,_,h=>by simp at h
 | _ :: _,_,[],_,_,h=>by simp at h
 | t :: ts,us,d :: ds,gs,h,hl=>by
  simp only [DataW.weightsEach,yE,yx] at h ⊢;rcases h with h | h
  ·exact .inl h
  ·exact .inr (wU h (by simpa using hl))
theorem DU {α:Type} {P:List AV->Prop} {f:α->List AV} {p:α->Prop} (h:∀ x,P x->∃ o,x=f o/\p o):∀ els:List (List AV),(∀ x∈els,P x)->∃ L:List α,els=L.map f/\∀ o∈L,p o
 | [],_=>⟨[],rfl,fun _ h=>by cases h⟩
 | x :: r,hx=>by
  obtain ⟨L,h1,h2⟩:=DU h r fun y hy=>hx y (yh _ hy)
  obtain ⟨o,h3,h4⟩:=h x (hx x yk);refine ⟨o :: L,by rw [h1,h3]; rfl,fun y hy=>?_⟩;rcases yc.1 hy with rfl | hy
  ·exact h4
  ·exact h2 y hy
theorem reachB:reachBytes=140737488351232:=rfl
theorem tyI {n:Nat} {a:List AV} (h:zJ Tryz.prog n 3 a):∃ x,a=[.int .i64 x]:=by
 cases n with
 | zero=>exact h.elim
 | succ n =>
  simp only [zJ,Tryz.underlying3] at h;obtain ⟨x,rfl,hx⟩:=h;exact ⟨x,rfl⟩
theorem intTy {a:AV} (h:ParT Tryz.prog 3 a):∃ x,a=.int .i64 x:=by
 obtain ⟨n,⟨hw,_⟩ | ⟨_,h⟩⟩:=h
 ·have fh:xF Tryz.prog 3=false:=by kernel_rfl
  rw [fh] at hw;cases hw
 ·obtain ⟨x,e⟩:=tyI h;injection e with e;exact ⟨x,e⟩
def schTs:List TypeId:=[31,29,102,99,144,100,105,40,37,38,156,3,2,4,9]
theorem schTs_good:schTs.all (BP Tryz.prog schTs)=true:=by kernel_rfl
theorem bytesSym:Tryz.prog.bytesOf 144=24:=by kernel_rfl
theorem bytesMem:16<=Tryz.prog.bytesOf 105:=of_decide_eq_true (by kernel_rfl)
theorem i64_of {n:Int} (h:(Lit.int .i64 n).wf=true):LE n:=by
 simp only [Lit.wf,y7,decide_eq_true_eq] at h;have h1:IntKind.i64.min=-9223372036854775808:=rfl;have h2:IntKind.i64.max=9223372036854775807:=rfl;exact ⟨by omega,by omega⟩
section
variable {n:Nat} {a:List AV}
include n a
theorem WR (h:zJ Tryz.prog n 3 a):∃ x,a=[.int .i64 x]/\LE x:=by
 cases n with
 | zero=>exact h.elim
 | succ n =>
  simp only [zJ,Tryz.underlying3] at h;obtain ⟨x,rfl,hx⟩:=h;exact ⟨x,rfl,i64_of hx⟩
theorem d6 (h:zJ Tryz.prog n 2 a):∃ x,a=[.int .i64 x]/\LE x:=by
 cases n with
 | zero=>exact h.elim
 | succ n =>
  simp only [zJ,Tryz.underlying2] at h;obtain ⟨x,rfl,hx⟩:=h;exact ⟨x,rfl,i64_of hx⟩
theorem tyBoo (h:zJ Tryz.prog n 4 a):∃ x,a=[.bool x]:=by
 cases n with
 | zero=>exact h.elim
 | succ n =>
  simp only [zJ,Tryz.underlying4] at h;exact h
theorem I9 (h:zJ Tryz.prog n 9 a):∃ x,a=[.str x]/\x.size<=9223372036854775807:=by
 cases n with
 | zero=>exact h.elim
 | succ n =>
  simp only [zJ,Tryz.underlying9] at h;exact h
theorem tyRaw (h:zJ Tryz.prog n 156 a):∃ r:Raw,a=sK r/\True:=by
 cases n with
 | zero=>exact h.elim
 | succ n =>
  simp only [zJ,Tryz.underlying156,nO] at h;obtain ⟨_,_,rfl,_,h1,_,_,rfl,_,h2,rfl⟩:=h;obtain ⟨x1,rfl,_⟩:=WR h1;obtain ⟨x2,rfl,_⟩:=I9 h2;exact ⟨⟨x1,x2⟩,rfl,trivial⟩
theorem tyRaws (h:zJ Tryz.prog n 38 a):∃ nl,∃ l:List Raw,a=[.sl nl (l.map sK)]/\l.length<=9223372036854775807:=by
 cases n with
 | zero=>exact h.elim
 | succ n =>
  simp only [zJ,Tryz.underlying38] at h;obtain ⟨nl,els,rfl,h1,_,_,h4⟩:=h;obtain ⟨L,rfl,_⟩:=DU (P:=fun x=>zJ Tryz.prog n 156 x) (fun x hx=>tyRaw hx) els (fun x hx=>(h4 x hx).2);exact ⟨nl,L,rfl,by simpa [maxLen] using h1⟩
end
theorem tyVal:∀ (n:Nat) {a:List AV},zJ Tryz.prog n 40 a->∃ v:Vl,a=pA v/\v.ok/\v.i64
 | 0,_,h=>h.elim
 | n + 1,a,h=>by
  simp only [zJ,Tryz.underlying40,nO] at h;obtain ⟨_,_,rfl,_,h1,_,_,rfl,_,h2,_,_,rfl,_,h3,_,_,rfl,_,h4,_,_,rfl,_,h5,_,_,rfl,_,h6,_,_,rfl,_,h7,_,_,rfl,_,h8,rfl⟩:=h;obtain ⟨x1,rfl,_⟩:=WR h1;obtain ⟨x2,rfl⟩:=tyBoo h2;obtain ⟨x3,rfl,u3⟩:=d6 h3;obtain ⟨x4,rfl,u4⟩:=I9 h4;obtain ⟨x5,rfl,_⟩:=WR h5;obtain ⟨rn,rs,rfl,lr⟩:=tyRaws h8;have vals:∀ {a:List AV},zJ Tryz.prog n 37 a->∃ nl,∃ l:List Vl,a=[.sl nl (l.map pA)]/\l.length<=9223372036854775807/\∀ v∈l,v.ok/\v.i64:=fun {a} h=>by
   cases n with
   | zero=>exact h.elim
   | succ m =>
    simp only [zJ,Tryz.underlying37] at h;obtain ⟨nl,els,rfl,h1,_,_,h4⟩:=h;obtain ⟨L,rfl,hL⟩:=DU (P:=fun x=>zJ Tryz.prog m 40 x) (fun x hx=>tyVal m hx) els (fun x hx=>(h4 x hx).2);exact ⟨nl,L,rfl,by simpa [maxLen] using h1,hL⟩
  obtain ⟨kn,ks,rfl,lk,hk⟩:=vals h6;obtain ⟨xn,xs,rfl,lx,hx⟩:=vals h7;refine ⟨.mk x1 x2 x3 x4 x5 kn ks xn xs rn rs,?_,?_,?_⟩
  ·rw [qA]; rfl
  ·rw [Vl.ok_def];exact ⟨lk,lx,lr,u4,fun v hv=>(hk v hv).1,fun v hv=>(hx v hv).1⟩
  ·rw [Vl.i64_def];exact ⟨u3,fun v hv=>(hk v hv).2,fun v hv=>(hx v hv).2⟩
section
variable {n:Nat} {a:List AV}
include n a
theorem tySym (h:zJ Tryz.prog n 144 a):∃ r:eU,a=MD r/\True:=by
 cases n with
 | zero=>exact h.elim
 | succ n =>
  simp only [zJ,Tryz.underlying144,nO] at h;obtain ⟨_,_,rfl,_,h1,_,_,rfl,_,h2,rfl⟩:=h;obtain ⟨x1,rfl,_⟩:=WR h1;obtain ⟨x2,rfl,_⟩:=I9 h2;exact ⟨⟨x1,x2⟩,rfl,trivial⟩
theorem tyMem (h:zJ Tryz.prog n 105 a):∃ m:bB,a=nA m/\m.ok/\m.dflt.i64:=by
 cases n with
 | zero=>exact h.elim
 | succ n =>
  simp only [zJ,Tryz.underlying105,nO] at h;obtain ⟨_,_,rfl,_,h1,_,_,rfl,_,h2,_,_,rfl,_,h3,_,_,rfl,_,h4,_,_,rfl,_,h5,_,_,rfl,_,h6,rfl⟩:=h;obtain ⟨x1,rfl,_⟩:=WR h1;obtain ⟨x2,rfl,u2⟩:=I9 h2;obtain ⟨x3,rfl,_⟩:=WR h3;obtain ⟨x4,rfl⟩:=tyBoo h4;obtain ⟨x5,rfl⟩:=tyBoo h5;obtain ⟨v,rfl,h6,h7⟩:=tyVal _ h6;exact ⟨⟨x1,x2,x3,x4,x5,v⟩,by rw [qA]; rfl,⟨h6,u2⟩,h7⟩
theorem tySyms (h:zJ Tryz.prog n 99 a):∃ nl,∃ l:List eU,a=[AV.sl nl (l.map MD)]/\l.length * 24<=reachBytes:=by
 cases n with
 | zero=>exact h.elim
 | succ m =>
  simp only [zJ,Tryz.underlying99,bytesSym] at h;obtain ⟨nl,els,e,_,h2,_,h4⟩:=h;obtain ⟨L,rfl,_⟩:=DU (P:=fun x=>zJ Tryz.prog m 144 x) (fun x hx=>tySym hx) els (fun x hx=>(h4 x hx).2);exact ⟨nl,L,e,by simpa using h2⟩
theorem tyMems (h:zJ Tryz.prog n 100 a):∃ nl,∃ l:List bB,a=[AV.sl nl (l.map nA)]/\l.length * 16<=reachBytes/\∀ m∈l,m.ok/\m.dflt.i64:=by
 cases n with
 | zero=>exact h.elim
 | succ m =>
  simp only [zJ,Tryz.underlying100] at h;obtain ⟨nl,els,e,_,h2,_,h4⟩:=h;obtain ⟨L,rfl,hL⟩:=DU (P:=fun x=>zJ Tryz.prog m 105 x) (fun x hx=>tyMem hx) els (fun x hx=>(h4 x hx).2);refine ⟨nl,L,e,?_,hL⟩;have:=Nat.mul_le_mul_left L.length bytesMem;simp only [yn] at h2;omega
theorem tyTyp (h:zJ Tryz.prog n 102 a):∃ t:gA,a=eA t/\t.fine/\t.d64/\LE t.low/\LE t.high:=by
 cases n with
 | zero=>exact h.elim
 | succ n =>
  simp only [zJ,Tryz.underlying102,nO] at h;obtain ⟨_,_,rfl,_,h1,_,_,rfl,_,h2,_,_,rfl,_,h3,_,_,rfl,_,h4,_,_,rfl,_,h5,_,_,rfl,_,h6,_,_,rfl,_,h7,_,_,rfl,_,h8,_,_,rfl,_,h9,_,_,rfl,_,zt,rfl⟩:=h;obtain ⟨x1,rfl,_⟩:=WR h1;obtain ⟨x2,rfl,u2⟩:=I9 h2;obtain ⟨x3,rfl,q3⟩:=d6 h3;obtain ⟨x4,rfl,q4⟩:=d6 h4;obtain ⟨x5,rfl,_⟩:=WR h5;obtain ⟨x8,rfl,_⟩:=WR h8;obtain ⟨x9,rfl,_⟩:=WR h9;obtain ⟨x10,rfl⟩:=tyBoo zt;obtain ⟨sn,sy,rfl,l6⟩:=tySyms h6;obtain ⟨mn,me,rfl,l7,hm⟩:=tyMems h7;have hr:=reachB;refine ⟨⟨x1,x2,x3,x4,x5,sn,sy,mn,me,x8,x9,x10⟩,rfl,⟨⟨?_,?_,fun m h=>(hm m h).1⟩,?_,?_⟩,fun m h=>(hm m h).2,q3,q4⟩
  all_goals dsimp only
  all_goals omega
theorem tySch (h:zJ Tryz.prog n 31 a):∃ s:PM,a=JA s/\s.fine/\s.d64/\∀ x∈s.types,LE x.low/\LE x.high:=by
 cases n with
 | zero=>exact h.elim
 | succ n =>
  simp only [zJ,Tryz.underlying31,nO] at h;obtain ⟨_,_,rfl,_,h1,rfl⟩:=h;cases n with
  | zero=>exact h1.elim
  | succ m =>
   simp only [zJ,Tryz.underlying29] at h1;obtain ⟨nl,els,rfl,h1,_,_,h4⟩:=h1;obtain ⟨L,rfl,hL⟩:=DU (P:=fun x=>zJ Tryz.prog m 102 x) (fun x hx=>tyTyp hx) els (fun x hx=>(h4 x hx).2);exact ⟨⟨nl,L⟩,rfl,⟨by simpa [maxLen] using h1,fun t ht=>(hL t ht).1⟩,fun t ht=>(hL t ht).2.1,fun t ht=>(hL t ht).2.2⟩
end
theorem schTy {a:AV} (h:ParT Tryz.prog 31 a):∃ s:PM,a=.agg (JA s)/\s.fine/\s.d64/\∀ x∈s.types,LE x.low/\LE x.high:=by
 obtain ⟨n,⟨_,c,rfl,h⟩ | ⟨hw,_⟩⟩:=h
 ·obtain ⟨s,rfl,h'⟩:=tySch h;exact ⟨s,rfl,h'⟩
 ·have fh:xF Tryz.prog 31=true:=by kernel_rfl
  rw [fh] at hw;cases hw
end
end Go.Proofs.YtjoaiabjebpbjaaGreat
