/- A part of the proof. -/
import Derived.Test.YthnefkpplcmjdaaGreatWr
set_option linter.all false
set_option maxRecDepth 100000
set_option maxHeartbeats 8000000
open Option renaming bind_some → J
open List renaming range_succ → y0, map_map → y3, getElem?_eq_getElem → y7, getElem_mem → y8, getElem?_map → yb, drop_eq_getElem_cons → yc, drop_eq_nil_of_le → yf, mem_cons → yh, mem_cons_self → yl, mem_cons_of_mem → ym, length_map → yo, cons_append → yv, mem_append → yD, length_cons → yE
open Int renaming toNat_lt → y4
open Bool renaming and_eq_true → y9
namespace Go.Proofs.YthnefkpplcmjdaaGreat
open Go
section
def eY:Int->List BC->Int
 |a,[]=>a
 |a,t::r=>eY (IntKind.i64.wrap (a+t.qA.length)) r
theorem Xt:∀(l:List BC)(a:Int),0<=a->a+l.length*8796093022206<=4611686018427387904->(∀t∈l,t.qA.length<=8796093022206)->a<=eY a l/\∀t∈l,a+t.qA.length<=eY a l
 | [],a,_,_,_=>⟨Int.le_refl _,by simp⟩
 |t::r,a,h0,h1,h2=>by
  have ht:=h2 t (by simp);simp only[yE]at h1;have hw:IntKind.i64.wrap (a+t.qA.length)=a+t.qA.length:=IntWalk.i64_in _ (by omega);obtain⟨q1,q2⟩:=Xt r (a+t.qA.length) (by omega) (by omega) fun t' h'=>h2 t' (ym _ h')
  rw[eY,hw];refine⟨by omega,fun t' h'=>?_⟩;rcases yh.1 h' with rfl|h'
  ·exact q1
  ·have:=q2 t' h';omega
noncomputable def dZ (S:List BC):Bool:=(decide (S.length<=6)&&decide (eY 0 S<=12))||decide (aF S≠0)
theorem Ki {S:List BC}(h:dZ S=true)(h0:aF S=0)(hf:∀t∈S,t.qA.length<=8796093022206):∀x∈S,x.qA.length<=12:=fun x hx=>by
 unfold dZ at h;simp[h0]at h;have:=(Xt S 0 (by omega) (by omega) hf).2 x hx;omega
noncomputable def UU (S:List BC):Bool:=(decide (S.length<=5)&&decide (eY 0 S<=12))||decide (aF S≠0)
theorem Rq {S:List BC}(h:UU S=true):dZ S=true:=by
 unfold UU at h;unfold dZ;simp at h ⊢;rcases h with h|h
 ·exact .inl ⟨by omega,h.2⟩
 ·exact .inr h
theorem Tq (s:dR)(hs:s.fine)(ub:s.JB){fw:Bool}(rx:IC 23 [.agg (pD s)] (.bool fw)):IC 8 [.agg (pD s)] (.bool (fw&&UU s.types)):=by
 have he:=E4 s hs ub;simp only[IC,pD]at he rx;refine mC (c:=lM) rfl rfl ?_;simp[lM,-J,-y4,-y3,y0,pD];refine ZC s.types.length (fun i σ=>(σ.env 1).v=.ptr 1 1 0/\σ.mem 1 1=some [⟨.sl s.nl (s.types.map QC),.no⟩]/\(∃a,(σ.env 3).v=.int .i64 a/\eY a (s.types.drop i)=eY 0 s.types)/\(σ.env 7).v=.sl s.nl (s.types.map QC)/\(σ.env 8).v=.int .i64 s.types.length/\(σ.env 9).v=.int .i64 i)
  (fun e σ=>e=.exit 0/\(σ.env 1).v=.ptr 1 1 0/\σ.mem 1 1=some [⟨.sl s.nl (s.types.map QC),.no⟩]/\(σ.env 3).v=.int .i64 (eY 0 s.types)) (fun i hi σ k h ih hk=>?_) _ _ ?_ (fun e σ h=>?_)
 ·obtain ⟨e1,m1,⟨a,e3,jp⟩,e7,e8,e9⟩:=h;refine EC ?_;by_cases fa:i<s.types.length
  ·have ga:(i:Int)<s.types.length:=by omega
   have g1:(s.types.map QC)[i]?=some (QC s.types[i]):=by simp[fa]
   have hw:=cD (i:=i) (by have:=hs.1;omega);rw[yc fa,eY]at jp;generalize s.types[i]=x at *
   simp only[QC]at g1;simp[NL,-J,-y4,-y3,y0,e3,e7,e8,e9,ga,g1,hw];refine ih fa _ ⟨?_,?_,⟨_,?_,jp⟩,?_,?_,?_⟩
   ·simp[e1]
   ·simp[m1]
   ·simp
   ·simp[e7]
   ·simp[e8]
   ·simp
  ·have ga:¬ (i:Int)<s.types.length:=by omega
   rw[yf (by omega),eY]at jp;simp[NL,-J,-y4,-y3,y0,e8,e9,ga];exact hk _ _ ⟨rfl,by simp[e1],m1,by simp[e3,jp]⟩
 ·refine⟨?_,?_,⟨0,?_,rfl⟩,?_,?_,?_⟩<;>simp
 ·obtain ⟨rfl,e1,m1,e3⟩:=h;unfold UU;generalize eY 0 s.types=z at *
  generalize aF s.types=er at *
  cases fw with
  |false=>simp[-J,-y4,-y3,y0,e1,m1,e3,rx]
  |true =>
   by_cases c1:s.types.length<=5
   ·have uf:(s.types.length:Int)<=5:=by omega
    by_cases c2:z<=12
    ·simp[-J,-y4,-y3,y0,e1,m1,e3,c1,uf,c2,rx]
    ·by_cases c3:er=0<;>simp[-J,-y4,-y3,y0,e1,m1,e3,c1,uf,c2,he,c3,rx]
   ·have uf:¬ (s.types.length:Int)<=5:=by omega
    by_cases c3:er=0<;>simp[-J,-y4,-y3,y0,e1,m1,e3,c1,uf,he,c3,rx]
theorem p5 (s:dR)(hs:s.fine)(ub:s.JB):∃e:Int,(e=0->aF s.types=0)/\IC 37 [.agg (pD s)] (.int .i64 e)/\IC 25 [.agg (pD s)] (.int .i64 e):=by
 by_cases h0:aF s.types=0
 ·obtain⟨w,hr,h1,h2⟩:=u7 s (eM h0);exact⟨_,fun _=>h0,t9 s hs ub (fun _=>⟨hr,h1⟩),U4 s hs ub (fun _=>⟨hr,h2⟩)⟩
 ·refine ⟨GW s.types (fun _=>0),fun h=>?_,t9 s hs ub (fun h=>absurd h h0),U4 s hs ub (fun h=>absurd h h0)⟩;unfold GW at h
  rwa [if_neg h0]at h
theorem l9:TC .zero=[.int .i64 0,.bool false,.int .i64 0,.str ⟨#[]⟩,.int .i64 0,.sl true [],.sl true [],.sl true []]:=by rw[nC];rfl
def Di (e:Int)(n:Nat)(t:Int):Int:=if e=0 then(if t<0\/(n:Int)<=t then 4 else 0)else e
section
variable (s:dR) (t e:Int)
theorem Tb (h:IC 37 [.agg (pD s)] (.int .i64 e)):IC 18 [.agg (pD s),.int .i64 t] (.int .i64 (Di e s.types.length t)):=by
 simp only[IC,pD]at h;refine mC (c:=DH) rfl rfl ?_;unfold Di;by_cases h0:e=0
 ·by_cases h1:t<0
  ·simp[DH,-J,-y4,-y3,y0,pD,h,h0,h1]
  ·by_cases h2:(s.types.length:Int)<=t<;>simp[DH,-J,-y4,-y3,y0,pD,h,h0,h1,h2]
 ·simp[DH,-J,-y4,-y3,y0,pD,h,h0]
theorem rerr15 (h:IC 25 [.agg (pD s)] (.int .i64 e)):IC 9 [.agg (pD s),.int .i64 t] (.int .i64 (Di e s.types.length t)):=by
 simp only[IC,pD]at h;refine mC (c:=QI) rfl rfl ?_;unfold Di;by_cases h0:e=0
 ·by_cases h1:t<0
  ·simp[QI,-J,-y4,-y3,y0,pD,h,h0,h1]
  ·by_cases h2:(s.types.length:Int)<=t<;>simp[QI,-J,-y4,-y3,y0,pD,h,h0,h1,h2]
 ·simp[QI,-J,-y4,-y3,y0,pD,h,h0]
variable {t e} {er:Int} (hk:IC 18 [.agg (pD s),.int .i64 t] (.int .i64 er))
include hk
theorem S9 (h:er≠0):IC 10 [.agg (pD s),.int .i64 t,.sl true []] (.sA [.agg (TC .zero),.int .i64 er]):=by
 simp only[IC,pD]at hk;refine mC (c:=HF) rfl rfl ?_;rw[l9];simp[HF,-J,-y4,-y3,y0,pD,hk,h]
theorem Mh (h:er≠0)(v:Vl):IC 11 [.agg (pD s),.int .i64 t,.agg (TC v)] (.sA [.agg (TC .zero),.int .i64 er]):=by
 simp only[IC,pD]at hk;refine mC (c:=WI) rfl rfl ?_;simp only[l9,nC v];simp[WI,-J,-y4,-y3,y0,pD,hk,h]
theorem Dq (h:er=0)(v:Vl)(hp:IC 27 [.agg (pD s),.int .i64 t,.agg (TC v)] (.bool false)):IC 11 [.agg (pD s),.int .i64 t,.agg (TC v)] (.sA [.agg (TC .zero),.int .i64 1]):=by
 subst h;simp only[IC,pD,nC v]at hk hp;refine mC (c:=WI) rfl rfl ?_;simp only[l9,nC v];simp[WI,-J,-y4,-y3,y0,pD,hk,hp]
theorem Dw {n e:Int}(h:(er≠0/\e=er)\/(er=0/\(n<0\/12<n)/\e=7)):IC 12 [.agg (pD s),.int .i64 t,.int .i64 n] (.sA [.sl true [],.int .i64 e]):=by
 simp only[IC,pD]at hk;refine mC (c:=RJ) rfl rfl ?_;rcases h with⟨h,rfl⟩|⟨rfl,h|h,rfl⟩
 ·simp[RJ,-J,-y4,-y3,y0,pD,hk,h]
 ·simp[RJ,-J,-y4,-y3,y0,pD,hk,h]
 ·have h':¬ n<0:=by omega
  simp[RJ,-J,-y4,-y3,y0,pD,hk,h,h']
theorem O3 {n e:Int}(h:(er≠0/\e=er)\/(er=0/\(n<0\/12<n)/\e=7)):IC 6 [.agg (pD s),.int .i64 t,.int .i64 n] (.sA [.int .i64 0,.int .i64 e]):=by
 simp only[IC,pD]at hk;refine mC (c:=AH) rfl rfl ?_;rcases h with⟨h,rfl⟩|⟨rfl,h|h,rfl⟩
 ·simp[AH,-J,-y4,-y3,y0,pD,hk,h]
 ·simp[AH,-J,-y4,-y3,y0,pD,hk,h]
 ·have h':¬ n<0:=by omega
  simp[AH,-J,-y4,-y3,y0,pD,hk,h,h']
theorem F3 {n e:Int}(h:(er≠0/\e=er)\/(er=0/\(n<0\/12<n)/\e=7)):IC 13 [.agg [.sl s.nl (s.types.map QC),.int .i64 t],.agg [.sl s.nl (s.types.map QC),.int .i64 t],.int .i64 n] (.sA [.agg (TC .zero),.int .i64 e]):=by
 simp only[IC,pD]at hk;refine mC (c:=SH) rfl rfl ?_;rw[l9];rcases h with⟨h,rfl⟩|⟨rfl,h|h,rfl⟩
 ·simp[SH,-J,-y4,-y3,y0,pD,hk,h]
 ·simp[SH,-J,-y4,-y3,y0,pD,hk,h]
 ·have h':¬ n<0:=by omega
  simp[SH,-J,-y4,-y3,y0,pD,hk,h,h']
omit hk
theorem s5 {v:Vl}{e2:Int}(hl:IC 58 [.agg (pD s),.int .i64 t] (.sA [.agg (TC v),.int .i64 e2])):jU dD PC 26 [.undef,.undef,.ptr 0 0 0,.int .i64 t] (some (.agg [.sl s.nl (s.types.map QC),.sl true [],.int .i64 0]))=some (.agg (TC v),some (.agg [.sl s.nl (s.types.map QC),.sl true [],.int .i64 e2])):=by
 simp only[IC,pD,nC]at hl;refine cG lG rfl rfl ?_;rw[nC];simp[lG,-J,-y4,-y3,y0,JD,AF,SE,eH,lD,tM,pJ,hl]
include hk
theorem Ru (h:er=0){v:Vl}{e2:Int}(hl:IC 58 [.agg (pD s),.int .i64 t] (.sA [.agg (TC v),.int .i64 e2])):∃(u:Vl)(e:Int),IC 10 [.agg (pD s),.int .i64 t,.sl true []] (.sA [.agg (TC u),.int .i64 e]):=by
 have hc:=s5 s hl;subst h;simp only[IC,pD,nC]at hk hc;by_cases h2:e2=0
 ·subst h2;refine⟨v,0,mC (c:=HF) rfl rfl ?_⟩;rw[nC];simp[HF,-J,-y4,-y3,y0,JD,AF,SE,eH,lD,tM,pJ,pD,hk,hc]
 ·refine⟨.zero,e2,mC (c:=HF) rfl rfl ?_⟩;rw[l9];simp[HF,-J,-y4,-y3,y0,JD,AF,SE,eH,lD,tM,pJ,pD,hk,hc,h2]
end
end
section
set_option maxHeartbeats 400000
theorem K4:zVal=.agg (TC .zero):=by rw[nC];rfl
theorem Lu {s:dR}(h:s.fine):s.ok:=⟨h.1,fun t ht=>(h.2 t ht).1⟩
section
variable (s:dR) (hs:s.fine) (ub:s.JB) (hn:∀ x∈s.types,LI x.low/\LI x.high)
include s hs ub hn
theorem Ib (hl:dZ s.types=true){t:Int}(h:xY s.types t=0):∃(v:Vl)(e:Int),IC 58 [.agg (pD s),.int .i64 t] (.sA [.agg (TC v),.int .i64 e]):=by
 have h00:aF s.types=0:=by
  unfold xY at h;split at h
  ·rename_i h';exact absurd h h'
  ·rename_i h';simpa using h'
 have hS:zH s.types:=zH.of hs ub hn h00;have xb:=Ki hl h00 fun x hx=>(hs.2 x hx).2.2
 have h1:=Fi s hs ub t;rw[h]at h1;obtain⟨h0,fa⟩:0<=t/\t<s.types.length:=by
  unfold xY at h;split at h
  ·rename_i h';exact absurd h h'
  ·split at h
   ·cases h
   ·omega
 have hl:=Jh s.nl hS xb;rw[Wu hS]at hl;have hN:t.toNat<s.types.length:=by omega
 have g:=dY (MR s.types (s.types.length+1)) hN;have um:=(i9 hS (s.types.length+1) 0 (by omega)).1 t.toNat hN;have um:XJ s.types t.toNat (MR s.types (s.types.length+1) t.toNat):=um;have ed:(MR s.types (s.types.length+1) t.toNat).known=true->(MR s.types (s.types.length+1) t.toNat).long=false->IC 101 [.agg (TC (MR s.types (s.types.length+1) t.toNat).v)] (.agg (TC (MR s.types (s.types.length+1) t.toNat).v.cl)):=fun k1 k2=>by
  obtain⟨_,_,q3,q4,_⟩:=um.v k1 k2;exact Fd hS.good (fun x hx=>(hS.win x hx).few) _ _ _ q3
 generalize LK s.types.length (MR s.types (s.types.length+1))=T at *
 generalize MR s.types (s.types.length+1) t.toNat=e at *
 simp only[IC,pD,LF]at h1 hl g;cases hk:e.known with
 |false =>
  rw[hk]at g;refine⟨.zero,10,mC (c:=GF) rfl rfl ?_⟩;rw[<- K4];simp[GF,-J,-y4,-y3,y0,pD,h1,hl,g,h0,zVal]
 |true =>
  cases xc:e.long with
  |true =>
   rw[hk,xc]at g;refine⟨.zero,3,mC (c:=GF) rfl rfl ?_⟩;rw[<- K4];simp[GF,-J,-y4,-y3,y0,pD,h1,hl,g,h0,zVal]
  |false =>
   have hc:=ed hk xc;rw[hk,xc]at g;refine⟨e.v.cl,0,mC (c:=GF) rfl rfl ?_⟩;simp only[IC,nC e.v,nC e.v.cl]at hc ⊢;simp[GF,-J,-y4,-y3,y0,pD,h1,hl,g,h0,hc]
theorem qY (t n:Int):IC 4 [.agg (pD s),.int .i64 t,.int .i64 n] (.bool true):=by
 have iu:=U9;have dr:=Tq s hs ub (few_ev s (Lu hs));refine mC (c:=FD) rfl rfl ?_;cases cl:(fewP s&&UU s.types)with
 |false =>
  rw[cl]at dr;simp only[IC,pD]at iu dr;simp[FD,-J,-y4,-y3,y0,pD,iu,dr]
 |true =>
  rw[cl]at dr;have fa:=Rq (by simpa using(y9 _ _▸cl:_/\_).2);obtain⟨e,le,tn,tt⟩:=p5 s hs ub;have hk:=Tb s t e tn;have hr:=rerr15 s t e tt;obtain⟨er,px⟩:∃er,er=Di e s.types.length t:=⟨_,rfl⟩;rw[<- px]at hk hr;by_cases h0:er=0
  ·have zd:e=0/\0<=t/\t<s.types.length:=by
    rw[h0]at px;unfold Di at px;split at px
    ·rename_i h1;split at px
     ·cases px
     ·rename_i h2;exact⟨h1,by omega,by omega⟩
    ·rename_i h1;exact absurd px.symm h1
   obtain⟨h1,h2,h3⟩:=zd;have wn:=le h1;have hG:=SQ hs (eM wn);have bc:xY s.types t=0:=by
    unfold xY;rw[if_neg (by simpa using wn),if_neg (by omega)]
   obtain⟨v,e2,hl⟩:=Ib s hs ub hn fa bc;obtain⟨u,e3,hc⟩:=Ru s hk h0 hl;have hx:s.types[t.toNat]?=some s.types[t.toNat]:=y7 (by omega);have tj:IC 27 [.agg (pD s),.int .i64 t,.agg (TC .zero)] (.bool false):=by
    have hf:=U7 s.nl s.types t s.types[t.toNat] .zero h2 (by omega) (by rw[yb,hx];rfl) (fun hq=>by
     have:=(hG _ (y8 (by omega:t.toNat<s.types.length))).1;unfold IE at this;rw[<- hq]at this;simp[Vl.zero,Vl.kind]at this)
    simp only[IC,nC]at hf ⊢;refine mC (c:=EI) rfl rfl ?_;simp[EI,-J,-y4,-y3,y0,pD,hf]
   have ua:=Dq s hk h0 .zero tj;by_cases mi:0<=n/\n<=12
   ·simp only[IC,pD,l9,nC u]at iu dr hr hc ua;simp[FD,-J,-y4,-y3,y0,pD,iu,dr,hr,hc,ua,h0,mi.1,mi.2]
   ·have wg:n<0\/12<n:=by omega
    have ha:=Dw s hk (n:=n) (e:=7) (.inr ⟨h0,wg,rfl⟩);have iz:=O3 s hk (n:=n) (e:=7) (.inr ⟨h0,wg,rfl⟩);have mj:=F3 s hk (n:=n) (e:=7) (.inr ⟨h0,wg,rfl⟩);simp only[IC,pD,l9,nC u]at iu dr hr hc ua ha iz mj;rcases wg with wg|wg
    ·have q:¬ 0<=n:=by omega
     simp[FD,-J,-y4,-y3,y0,pD,iu,dr,hr,hc,ua,ha,iz,mj,h0,q]
    ·have q:0<=n:=by omega
     have q':¬n<=12:=by omega
     simp[FD,-J,-y4,-y3,y0,pD,iu,dr,hr,hc,ua,ha,iz,mj,h0,q,q']
  ·have hc:=S9 s hk h0;have ua:=Mh s hk h0 .zero;have ha:=Dw s hk (n:=n) (e:=er) (.inl ⟨h0,rfl⟩);have iz:=O3 s hk (n:=n) (e:=er) (.inl ⟨h0,rfl⟩);have mj:=F3 s hk (n:=n) (e:=er) (.inl ⟨h0,rfl⟩);simp only[IC,pD,l9]at iu dr hr hc ua ha iz mj;simp[FD,-J,-y4,-y3,y0,pD,iu,dr,hr,hc,ua,ha,iz,mj,h0]
end
end
section
open Go Go.RowKit Go.ChangeShapes Go.WideShapes
theorem mixedT:Tryz.prog.follows .mixedOrders=true:=by kernel_rfl
theorem bV {H:Type}{P:Program}{m:Nat}:∀{ts us:List TypeId}{ds gs:List (DataW H)},m∈DataW.weightsEach P ts ds->ts.length=ds.length->m∈DataW.weightsEach P (ts++us) (ds++gs)
 | [],_,[],_,h,_=>by simp[DataW.weightsEach]at h
 | [],_,_::_,_,_,h=>by simp at h
 |_::_,_,[],_,_,h=>by simp at h
 |t::ts,us,d::ds,gs,h,hl=>by
  simp only[DataW.weightsEach,yD,yv]at h ⊢;rcases h with h|h
  ·exact .inl h
  ·exact .inr (bV h (by simpa using hl))
theorem rW {α:Type}{P:List AV->Prop}{f:α->List AV}{p:α->Prop}(h:∀x,P x->∃o,x=f o/\p o):∀els:List (List AV),(∀x∈els,P x)->∃L:List α,els=L.map f/\∀o∈L,p o
 | [],_=>⟨[],rfl,fun _ h=>by cases h⟩
 |x::r,hx=>by
  obtain⟨L,h1,h2⟩:=rW h r fun y hy=>hx y (ym _ hy)
  obtain⟨o,h3,h4⟩:=h x (hx x yl);refine⟨o::L,by rw[h1,h3];rfl,fun y hy=>?_⟩;rcases yh.1 hy with rfl|hy
  ·exact h4
  ·exact h2 y hy
theorem reachB:reachBytes=140737488351232:=rfl
theorem tyI {n:Nat}{a:List AV}(h:ZK Tryz.prog n 3 a):∃x,a=[.int .i64 x]:=by
 cases n with
 |zero=>exact h.elim
 |succ n =>
  simp only[ZK,Tryz.underlying3]at h;obtain⟨x,rfl,hx⟩:=h;exact⟨x,rfl⟩
theorem intTy {a:AV}(h:Da Tryz.prog 3 a):∃x,a=.int .i64 x:=by
 obtain⟨n,⟨hw,_⟩|⟨_,h⟩⟩:=h
 ·have sg:mO Tryz.prog 3=false:=by kernel_rfl
  rw[sg]at hw;cases hw
 ·obtain⟨x,e⟩:=tyI h;injection e with e;exact⟨x,e⟩
def Jk:List TypeId:=[29,27,26,23,97,24,100,39,36,37,132,3,2,4,9]
theorem Ww:Jk.all (TR Tryz.prog Jk)=true:=by kernel_rfl
theorem Ad:Tryz.prog.bytesOf 97=24:=by kernel_rfl
theorem Pd:16<=Tryz.prog.bytesOf 100:=of_decide_eq_true (by kernel_rfl)
theorem Xg {n:Int}(h:(Lit.int .i64 n).wf=true):LI n:=by
 simp only[Lit.wf,y9,decide_eq_true_eq]at h;have h1:IntKind.i64.min=-9223372036854775808:=rfl;have h2:IntKind.i64.max=9223372036854775807:=rfl;exact⟨by omega,by omega⟩
section
variable {n:Nat} {a:List AV}
include n a
theorem fT (h:ZK Tryz.prog n 3 a):∃x,a=[.int .i64 x]/\LI x:=by
 cases n with
 |zero=>exact h.elim
 |succ n =>
  simp only[ZK,Tryz.underlying3]at h;obtain⟨x,rfl,hx⟩:=h;exact⟨x,rfl,Xg hx⟩
theorem I6 (h:ZK Tryz.prog n 2 a):∃x,a=[.int .i64 x]/\LI x:=by
 cases n with
 |zero=>exact h.elim
 |succ n =>
  simp only[ZK,Tryz.underlying2]at h;obtain⟨x,rfl,hx⟩:=h;exact⟨x,rfl,Xg hx⟩
theorem Mt (h:ZK Tryz.prog n 4 a):∃x,a=[.bool x]:=by
 cases n with
 |zero=>exact h.elim
 |succ n =>
  simp only[ZK,Tryz.underlying4]at h;exact h
theorem a9 (h:ZK Tryz.prog n 9 a):∃x,a=[.str x]/\x.size<=9223372036854775807:=by
 cases n with
 |zero=>exact h.elim
 |succ n =>
  simp only[ZK,Tryz.underlying9]at h;obtain⟨x,rfl,hx,_⟩:=h;exact⟨x,rfl,hx⟩
theorem tyRaw (h:ZK Tryz.prog n 132 a):∃r:Ea,a=qN r/\True:=by
 cases n with
 |zero=>exact h.elim
 |succ n =>
  simp only[ZK,Tryz.underlying132,NP]at h;obtain⟨_,_,rfl,_,h1,_,_,rfl,_,h2,rfl⟩:=h;obtain⟨x1,rfl,_⟩:=fT h1;obtain⟨x2,rfl,_⟩:=a9 h2;exact⟨⟨x1,x2⟩,rfl,trivial⟩
theorem tyRaws (h:ZK Tryz.prog n 37 a):∃nl,∃l:List Ea,a=[.sl nl (l.map qN)]/\l.length<=9223372036854775807:=by
 cases n with
 |zero=>exact h.elim
 |succ n =>
  simp only[ZK,Tryz.underlying37]at h;obtain⟨nl,els,rfl,h1,_,_,h4⟩:=h;obtain⟨L,rfl,_⟩:=rW (P:=fun x=>ZK Tryz.prog n 132 x) (fun x hx=>tyRaw hx) els (fun x hx=>(h4 x hx).2);exact⟨nl,L,rfl,by simpa [maxLen]using h1⟩
end
theorem tyVal:∀(n:Nat){a:List AV},ZK Tryz.prog n 39 a->∃v:Vl,a=TC v/\v.ok/\v.i64
 |0,_,h=>h.elim
 |n+1,a,h=>by
  simp only[ZK,Tryz.underlying39,NP]at h;obtain⟨_,_,rfl,_,h1,_,_,rfl,_,h2,_,_,rfl,_,h3,_,_,rfl,_,h4,_,_,rfl,_,h5,_,_,rfl,_,h6,_,_,rfl,_,h7,_,_,rfl,_,h8,rfl⟩:=h;obtain⟨x1,rfl,_⟩:=fT h1;obtain⟨x2,rfl⟩:=Mt h2;obtain⟨x3,rfl,u3⟩:=I6 h3;obtain⟨x4,rfl,u4⟩:=a9 h4;obtain⟨x5,rfl,_⟩:=fT h5;obtain⟨rn,rs,rfl,lr⟩:=tyRaws h8;have vals:∀{a:List AV},ZK Tryz.prog n 36 a->∃nl,∃l:List Vl,a=[.sl nl (l.map TC)]/\l.length<=9223372036854775807/\∀v∈l,v.ok/\v.i64:=fun{a} h=>by
   cases n with
   |zero=>exact h.elim
   |succ m =>
    simp only[ZK,Tryz.underlying36]at h;obtain⟨nl,els,rfl,h1,_,_,h4⟩:=h;obtain⟨L,rfl,hL⟩:=rW (P:=fun x=>ZK Tryz.prog m 39 x) (fun x hx=>tyVal m hx) els (fun x hx=>(h4 x hx).2);exact⟨nl,L,rfl,by simpa [maxLen]using h1,hL⟩
  obtain⟨kn,ks,rfl,lk,hk⟩:=vals h6;obtain⟨xn,xs,rfl,lx,hx⟩:=vals h7;refine⟨.mk x1 x2 x3 x4 x5 kn ks xn xs rn rs,?_,?_,?_⟩
  ·rw[nC];rfl
  ·rw[Vl.NA];exact⟨lk,lx,lr,u4,fun v hv=>(hk v hv).1,fun v hv=>(hx v hv).1⟩
  ·rw[Vl.KA];exact⟨u3,fun v hv=>(hk v hv).2,fun v hv=>(hx v hv).2⟩
section
variable {n:Nat} {a:List AV}
include n a
theorem tySym (h:ZK Tryz.prog n 97 a):∃r:zX,a=TG r/\True:=by
 cases n with
 |zero=>exact h.elim
 |succ n =>
  simp only[ZK,Tryz.underlying97,NP]at h;obtain⟨_,_,rfl,_,h1,_,_,rfl,_,h2,rfl⟩:=h;obtain⟨x1,rfl,_⟩:=fT h1;obtain⟨x2,rfl,_⟩:=a9 h2;exact⟨⟨x1,x2⟩,rfl,trivial⟩
theorem tyMem (h:ZK Tryz.prog n 100 a):∃m:RE,a=uD m/\m.ok/\m.dflt.i64:=by
 cases n with
 |zero=>exact h.elim
 |succ n =>
  simp only[ZK,Tryz.underlying100,NP]at h;obtain⟨_,_,rfl,_,h1,_,_,rfl,_,h2,_,_,rfl,_,h3,_,_,rfl,_,h4,_,_,rfl,_,h5,_,_,rfl,_,h6,rfl⟩:=h;obtain⟨x1,rfl,_⟩:=fT h1;obtain⟨x2,rfl,u2⟩:=a9 h2;obtain⟨x3,rfl,_⟩:=fT h3;obtain⟨x4,rfl⟩:=Mt h4;obtain⟨x5,rfl⟩:=Mt h5;obtain⟨v,rfl,h6,h7⟩:=tyVal _ h6;exact⟨⟨x1,x2,x3,x4,x5,v⟩,by rw[nC];rfl,⟨h6,u2⟩,h7⟩
theorem tySyms (h:ZK Tryz.prog n 23 a):∃nl,∃l:List zX,a=[AV.sl nl (l.map TG)]/\l.length*24<=reachBytes:=by
 cases n with
 |zero=>exact h.elim
 |succ m =>
  simp only[ZK,Tryz.underlying23,Ad]at h;obtain⟨nl,els,e,_,h2,_,h4⟩:=h;obtain⟨L,rfl,_⟩:=rW (P:=fun x=>ZK Tryz.prog m 97 x) (fun x hx=>tySym hx) els (fun x hx=>(h4 x hx).2);exact⟨nl,L,e,by simpa using h2⟩
theorem tyMems (h:ZK Tryz.prog n 24 a):∃nl,∃l:List RE,a=[AV.sl nl (l.map uD)]/\l.length*16<=reachBytes/\∀m∈l,m.ok/\m.dflt.i64:=by
 cases n with
 |zero=>exact h.elim
 |succ m =>
  simp only[ZK,Tryz.underlying24]at h;obtain⟨nl,els,e,_,h2,_,h4⟩:=h;obtain⟨L,rfl,hL⟩:=rW (P:=fun x=>ZK Tryz.prog m 100 x) (fun x hx=>tyMem hx) els (fun x hx=>(h4 x hx).2);refine⟨nl,L,e,?_,hL⟩;have:=Nat.mul_le_mul_left L.length Pd;simp only[yo]at h2;omega
theorem tyTyp (h:ZK Tryz.prog n 26 a):∃t:BC,a=QC t/\t.fine/\t.JB/\LI t.low/\LI t.high:=by
 cases n with
 |zero=>exact h.elim
 |succ n =>
  simp only[ZK,Tryz.underlying26,NP]at h;obtain⟨_,_,rfl,_,h1,_,_,rfl,_,h2,_,_,rfl,_,h3,_,_,rfl,_,h4,_,_,rfl,_,h5,_,_,rfl,_,h6,_,_,rfl,_,h7,_,_,rfl,_,h8,_,_,rfl,_,h9,_,_,rfl,_,tw,rfl⟩:=h;obtain⟨x1,rfl,_⟩:=fT h1;obtain⟨x2,rfl,u2⟩:=a9 h2;obtain⟨x3,rfl,q3⟩:=I6 h3;obtain⟨x4,rfl,q4⟩:=I6 h4;obtain⟨x5,rfl,_⟩:=fT h5;obtain⟨x8,rfl,_⟩:=fT h8;obtain⟨x9,rfl,_⟩:=fT h9;obtain⟨x10,rfl⟩:=Mt tw;obtain⟨sn,sy,rfl,l6⟩:=tySyms h6;obtain⟨mn,me,rfl,l7,hm⟩:=tyMems h7;have hr:=reachB;refine⟨⟨x1,x2,x3,x4,x5,sn,sy,mn,me,x8,x9,x10⟩,rfl,⟨⟨?_,?_,fun m h=>(hm m h).1⟩,?_,?_⟩,fun m h=>(hm m h).2,q3,q4⟩
  all_goals dsimp only
  all_goals omega
theorem tySch (h:ZK Tryz.prog n 29 a):∃s:dR,a=pD s/\s.fine/\s.JB/\∀x∈s.types,LI x.low/\LI x.high:=by
 cases n with
 |zero=>exact h.elim
 |succ n =>
  simp only[ZK,Tryz.underlying29,NP]at h;obtain⟨_,_,rfl,_,h1,rfl⟩:=h;cases n with
  |zero=>exact h1.elim
  |succ m =>
   simp only[ZK,Tryz.underlying27]at h1;obtain⟨nl,els,rfl,h1,_,_,h4⟩:=h1;obtain⟨L,rfl,hL⟩:=rW (P:=fun x=>ZK Tryz.prog m 26 x) (fun x hx=>tyTyp hx) els (fun x hx=>(h4 x hx).2);exact⟨⟨nl,L⟩,rfl,⟨by simpa [maxLen]using h1,fun t ht=>(hL t ht).1⟩,fun t ht=>(hL t ht).2.1,fun t ht=>(hL t ht).2.2⟩
end
theorem schTy {a:AV}(h:Da Tryz.prog 29 a):∃s:dR,a=.agg (pD s)/\s.fine/\s.JB/\∀x∈s.types,LI x.low/\LI x.high:=by
 obtain⟨n,⟨_,c,rfl,h⟩|⟨hw,_⟩⟩:=h
 ·obtain⟨s,rfl,h'⟩:=tySch h;exact⟨s,rfl,h'⟩
 ·have sg:mO Tryz.prog 29=true:=by kernel_rfl
  rw[sg]at hw;cases hw
end
end Go.Proofs.YthnefkpplcmjdaaGreat
