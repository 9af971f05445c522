/- A part of the proof. -/
import Derived.Test.YtbnlmgncbgaepaaGreatUm
import Derived.Test.YtbnlmgncbgaepaaGreatUq
import Derived.Test.YtbnlmgncbgaepaaGreatUt
set_option linter.all false
set_option maxRecDepth 100000
set_option maxHeartbeats 8000000
open Option renaming bind_some → y0
open List renaming range_succ → y3, map_map → y4, getElem_mem → y8, getElem?_eq_some_iff → yb, getElem?_map → yc, mem_cons → yj, mem_cons_self → yn, map_congr_left → yp, mem_cons_of_mem → yq, mem_map → yu, mem_append → yB
open Int renaming toNat_lt → y5, tmod_eq_emod_of_nonneg → yz, emod_nonneg → yI, emod_lt_of_pos → yP
open Bool renaming and_eq_true → ye
namespace Go.Proofs.YtbnlmgncbgaepaaGreat
open Go
def q9F (dn:Bool) (l:List Nde) (cn:Bool) (cs:List Chg) (T U:Int):List AV:=[.sl dn (l.map ndeC),.sl cn (cs.map chgC),.int .u8 T,.int .u8 U]
structure CaseOk (l:List Nde) (cs:List Chg) (T U:Int):Prop where
 nds:∀ x∈l,x.ok/\x.sized
 sz:l.length * 32<=140737488355328
 chs:∀ c∈cs,c.ok
 cl:cs.length<=9223372036854775807
 t:u8 T
 u:u8 U
def badRes:AV:=.tup [.agg [.sl true [],.int .i64 0],.agg [.sl true [],.int .i64 0],.bool false]
theorem of20_ev {dn cn:Bool} {l:List Nde} {cs:List Chg} {T U:Int} (h:CaseOk l cs T U):∃ r:RV,(r=(badRes,none)\/∃ l1 l2 t u,oks l1/\oks l2/\inP (q06 l1).length (q06 l2).length (t,u)/\r=(.tup [.agg (q5D ⟨false,q06 l1⟩ t),.agg (q5D ⟨false,q06 l2⟩ u),.bool true],none))/\evC allT q01 18 [.agg (q9F dn l cn cs T U)] none=some r:=by
 obtain ⟨r1,⟨l2,jo,rfl⟩,zy⟩:=changed_ev (dn:=dn) (cn:=cn) h.nds h.sz h.chs h.cl;have xx:=of07_ev (dn:=dn) (l:=l) fun x hx=>(h.nds x hx).1
 have nr:=of07_ev (dn:=false) (l:=l2) jo;obtain ⟨t0,t1⟩:=h.t;obtain ⟨u0,u1⟩:=h.u;have eS:IntKind.i64.wrap T=T:=IntWalk.i64_in _ (by omega);have fS:IntKind.i64.wrap U=U:=IntWalk.i64_in _ (by omega);simp only [evA,dftC] at xx nr zy;rcases xx with ⟨cB,xx⟩ | ⟨_,xx⟩
 ·rcases nr with ⟨di,nr⟩ | ⟨_,nr⟩
  ·by_cases h5:5<(cs.length:Int)
   ·refine ⟨_,.inl rfl,?_⟩;refine q00 (c:=q2P) rfl rfl ?_;simp [q2P,q9F,badRes,-y0,-y5,-y4,y3,xx,zy,nr,h5]
   ·have sG:(q06 l).length=l.length:=by simp [q06]
    have xB:(q06 l2).length=l2.length:=by simp [q06]
    have p1:=cB.1;have p2:=di.1;have p15:=cB.2.1;have p25:=di.2.1;have a0:=yI T (b:=((q06 l).length:Int)) (by omega);have a1:=yP T (b:=((q06 l).length:Int)) (by omega);have am:T.tmod (q06 l).length=T % (q06 l).length:=yz t0;generalize T % ((q06 l).length:Int)=t at *
    have gS:IntKind.i64.wrap (t + U)=t + U:=IntWalk.i64_in _ (by omega);have b0:=yI (t + U) (b:=((q06 l2).length:Int)) (by omega);have b1:=yP (t + U) (b:=((q06 l2).length:Int)) (by omega);have bm:(t + U).tmod (q06 l2).length=(t + U) % (q06 l2).length:=yz (by omega);have n1:¬ (q06 l)=[]:=fun e=>by rw [e] at sG; simp at sG; omega
    have n2:¬ (q06 l2)=[]:=fun e=>by rw [e] at xB; simp at xB; omega
    have sS:¬ (q06 l).length=0:=by omega
    have tS:¬ (q06 l2).length=0:=by omega
    generalize hu:(t + U) % ((q06 l2).length:Int)=u at *
    refine ⟨_,.inr ⟨l,l2,t,u,cB,di,⟨a0,a1,b0,b1⟩,rfl⟩,?_⟩;refine q00 (c:=q2P) rfl rfl ?_;simp only [q5D];generalize q06 l=S1 at *
    generalize q06 l2=S2 at *
    simp [q2P,q9F,-y0,-y5,-y4,y3,xx,zy,nr,h5,eS,fS,am,bm,gS,n1,n2,sS,tS]
  ·refine ⟨_,.inl rfl,?_⟩;refine q00 (c:=q2P) rfl rfl ?_;simp [q2P,q9F,badRes,-y0,-y5,-y4,y3,xx,zy,nr]
 ·refine ⟨_,.inl rfl,?_⟩;refine q00 (c:=q2P) rfl rfl ?_;rcases nr with ⟨_,nr⟩ | ⟨_,nr⟩
  ·simp [q2P,q9F,badRes,-y0,-y5,-y4,y3,xx,zy,nr]
  ·simp [q2P,q9F,badRes,-y0,-y5,-y4,y3,xx,zy,nr]
section
open Go Go.RowKit Go.ChangeShapes Go.WideShapes
theorem mixed:Tryz.prog.follows .mixedOrders=true:=by kernel_rfl
theorem u8_of {n:Int} (h:(Lit.int .u8 n).wf=true):u8 n:=by
 simp only [Lit.wf,ye,decide_eq_true_eq] at h;have h1:IntKind.u8.min=0:=rfl;have h2:IntKind.u8.max=255:=rfl;exact ⟨by omega,by omega⟩
def caseTs:List TypeId:=[27,24,22,127,125,165,25,162,5,3]
theorem caseTs_good:caseTs.all (qai Tryz.prog caseTs)=true:=by kernel_rfl
theorem q8e {H:Type} {P:Program} {m:Nat}:∀ {ts us:List TypeId} {ds gs:List (DataW H)},m∈DataW.weightsEach P ts ds->ts.length=ds.length->m∈DataW.weightsEach P (ts++us) (ds++gs)
 | [],_,[],_,h,_=>by simp [DataW.weightsEach] at h
 | [],_,_ :: _,_,_,h=>by simp at h
 | _ :: _,_,[],_,_,h=>by simp at h
 | t :: ts,us,d :: ds,gs,h,hl=>by
  simp only [DataW.weightsEach,yB,List.cons_append] at h ⊢;rcases h with h | h
  ·exact .inl h
  ·exact .inr (q8e h (by simpa using hl))
theorem list_T {α:Type} {P:List AV->Prop} {f:α->List AV} {p:α->Prop} (h:∀ x,P x->∃ o,x=f o/\p o):∀ els:List (List AV),(∀ x∈els,P x)->∃ L:List α,els=L.map f/\∀ o∈L,p o
 | [],_=>⟨[],rfl,fun _ h=>by cases h⟩
 | x :: r,hx=>by
  obtain ⟨L,h1,h2⟩:=list_T h r fun y hy=>hx y (yq _ hy)
  obtain ⟨o,h3,h4⟩:=h x (hx x yn);refine ⟨o :: L,by rw [h1,h3]; rfl,fun y hy=>?_⟩;rcases yj.1 hy with rfl | hy
  ·exact h4
  ·exact h2 y hy
theorem bytesNode:Tryz.prog.bytesOf 127=32:=by kernel_rfl
theorem bytesPart:Tryz.prog.bytesOf 165=3:=by kernel_rfl
theorem reachB:reachBytes=140737488351232:=rfl
section
variable {n:Nat} {a:List AV}
include n a
theorem tyU (h:TyT Tryz.prog n 5 a):∃ x,a=[.int .u8 x]/\u8 x:=by
 cases n with
 | zero=>exact h.elim
 | succ n =>
  simp only [TyT,Tryz.underlying5] at h;obtain ⟨x,rfl,hx⟩:=h;exact ⟨x,rfl,u8_of hx⟩
theorem tyPart (h:TyT Tryz.prog n 165 a):∃ p:Prt,a=prtC p/\p.ok:=by
 cases n with
 | zero=>exact h.elim
 | succ n =>
  simp only [TyT,Tryz.underlying165,qac] at h;obtain ⟨_,_,rfl,_,h1,_,_,rfl,_,h2,_,_,rfl,_,h3,rfl⟩:=h;obtain ⟨x1,rfl,u1⟩:=tyU h1;obtain ⟨x2,rfl,u2⟩:=tyU h2;obtain ⟨x3,rfl,u3⟩:=tyU h3;exact ⟨⟨x1,x2,x3⟩,rfl,u1,u2,u3⟩
theorem tyChg (h:TyT Tryz.prog n 162 a):∃ c:Chg,a=chgC c/\c.ok:=by
 cases n with
 | zero=>exact h.elim
 | succ n =>
  simp only [TyT,Tryz.underlying162,qac] at h;obtain ⟨_,_,rfl,_,h1,_,_,rfl,_,h2,_,_,rfl,_,h3,_,_,rfl,_,h4,rfl⟩:=h;obtain ⟨x1,rfl,u1⟩:=tyU h1;obtain ⟨x2,rfl,u2⟩:=tyU h2;obtain ⟨x3,rfl,u3⟩:=tyU h3;obtain ⟨x4,rfl,u4⟩:=tyU h4;exact ⟨⟨x1,x2,x3,x4⟩,rfl,u1,u2,u3,u4⟩
theorem tyParts (h:TyT Tryz.prog n 125 a):∃ nl,∃ ps:List Prt,a=[.sl nl (ps.map prtC)]/\(∀ p∈ps,p.ok)/\ps.length * 3<=140737488351232:=by
 cases n with
 | zero=>exact h.elim
 | succ n =>
  simp only [TyT,Tryz.underlying125,bytesPart,reachB] at h;obtain ⟨nl,els,rfl,_,h2,_,h4⟩:=h;obtain ⟨L,rfl,hL⟩:=list_T (P:=fun x=>TyT Tryz.prog n 165 x) (fun x hx=>tyPart hx) els (fun x hx=>(h4 x hx).2);exact ⟨nl,L,rfl,hL,by simpa using h2⟩
theorem tyChgs (h:TyT Tryz.prog n 25 a):∃ nl,∃ ps:List Chg,a=[.sl nl (ps.map chgC)]/\(∀ p∈ps,p.ok)/\ps.length<=9223372036854775807:=by
 cases n with
 | zero=>exact h.elim
 | succ n =>
  simp only [TyT,Tryz.underlying25] at h;obtain ⟨nl,els,rfl,h1,_,_,h4⟩:=h;obtain ⟨L,rfl,hL⟩:=list_T (P:=fun x=>TyT Tryz.prog n 162 x) (fun x hx=>tyChg hx) els (fun x hx=>(h4 x hx).2);exact ⟨nl,L,rfl,hL,by simpa [maxLen] using h1⟩
theorem tyNode (h:TyT Tryz.prog n 127 a):∃ x:Nde,a=ndeC x/\x.ok/\x.sized:=by
 cases n with
 | zero=>exact h.elim
 | succ n =>
  simp only [TyT,Tryz.underlying127,qac] at h;obtain ⟨_,_,rfl,_,h1,_,_,rfl,_,h2,_,_,rfl,_,h3,_,_,rfl,_,h4,_,_,rfl,_,h5,rfl⟩:=h;obtain ⟨x1,rfl,u1⟩:=tyU h1;obtain ⟨x2,rfl,u2⟩:=tyU h2;obtain ⟨x3,rfl,u3⟩:=tyU h3;obtain ⟨x4,rfl,u4⟩:=tyU h4;obtain ⟨nl,ps,rfl,p1,p2⟩:=tyParts h5;exact ⟨⟨x1,x2,x3,x4,nl,ps⟩,rfl,⟨u1,u2,u3,u4,by dsimp only; omega,p1⟩,by unfold Nde.sized; dsimp only; omega⟩
theorem tyDraft (h:TyT Tryz.prog n 24 a):∃ nl,∃ l:List Nde,a=[.sl nl (l.map ndeC)]/\(∀ x∈l,x.ok/\x.sized)/\l.length * 32<=140737488351232:=by
 cases n with
 | zero=>exact h.elim
 | succ n =>
  simp only [TyT,Tryz.underlying24,qac] at h;obtain ⟨_,_,rfl,_,h1,rfl⟩:=h;cases n with
  | zero=>exact h1.elim
  | succ n =>
   simp only [TyT,Tryz.underlying22,bytesNode,reachB] at h1;obtain ⟨nl,els,rfl,_,h2,_,h4⟩:=h1;obtain ⟨L,rfl,hL⟩:=list_T (P:=fun x=>TyT Tryz.prog n 127 x) (fun x hx=>tyNode hx) els (fun x hx=>(h4 x hx).2);exact ⟨nl,L,rfl,hL,by simpa using h2⟩
end
theorem caseTy {a:AV} (h:ParT Tryz.prog 27 a):∃ dn,∃ l:List Nde,∃ cn,∃ cs:List Chg,∃ T U:Int,a=.agg (q9F dn l cn cs T U)/\CaseOk l cs T U:=by
 obtain ⟨n,⟨_,c,rfl,h⟩ | ⟨hw,_⟩⟩:=h
 ·cases n with
  | zero=>exact h.elim
  | succ n =>
   simp only [TyT,Tryz.underlying27,qac] at h;obtain ⟨_,_,rfl,_,h1,_,_,rfl,_,h2,_,_,rfl,_,h3,_,_,rfl,_,h4,rfl⟩:=h;obtain ⟨dn,l,rfl,l1,l2⟩:=tyDraft h1;obtain ⟨cn,cs,rfl,c1,c2⟩:=tyChgs h2;obtain ⟨T,rfl,u3⟩:=tyU h3;obtain ⟨U,rfl,u4⟩:=tyU h4;exact ⟨dn,l,cn,cs,T,U,rfl,l1,by omega,c1,c2,u3,u4⟩
 ·have oc:q8B Tryz.prog 27=true:=by kernel_rfl
  rw [oc] at hw;cases hw
end
theorem awake20_ev:evA 19 [] (.bool true):=awk_knows.run 3000 (by kernel_rfl)
theorem gt_same {N M:Nat} (hN:N<=1000) (hM:M<=1000) (g:Nat->Nat->Bool):evA 40 [gtA N M g,gtA N M g] (.bool true):=by
 have h:gtab N M g=((List.range N).map fun i=>(false,(List.range M).map (g i))).map trC:=by
  rw [y4];refine yp fun i _=>?_
  simp [trC,brow,Function.comp_def]
 unfold gtA;rw [h];exact tabs_same _ (by simpa using hN) (fun x hx=>by
  obtain ⟨i,_,rfl⟩:=yu.1 hx;simpa using hM) _ _
theorem q9G {l:List Nde} (h:oks l):0<(q06 l).length:=by
 have:=h.1;simp [q06];omega
theorem greatest20_ev {dn cn:Bool} {l:List Nde} {cs:List Chg} {T U:Int} (h:CaseOk l cs T U):evA 7 [.agg (q9F dn l cn cs T U)] (.bool true):=by
 have zB:=awake20_ev;obtain ⟨r,hr,kw⟩:=of20_ev (dn:=dn) (cn:=cn) h;refine q00 (c:=q10) rfl rfl ?_;rcases hr with rfl | ⟨l1,l2,t1,u1,o1,o2,jd,rfl⟩
 ·simp only [q9F,badRes] at kw ⊢;simp [q10,-y0,-y5,-y4,y3,kw,zB]
 ·have s1:=q7q o1;have s2:=q7q o2;have hF:=simF (draft_F o1) (draft_F o2);have f1:=greatest_ev s1 s2 hF (q9G o1);have f2:=rgreatest_ev s1 s2 hF;have f3:=gt_same (N:=(q06 l1).length) (M:=(q06 l2).length) (by have:=hF.wl; dsimp only at this; omega) (by have:=hF.rl; dsimp only at this; omega) (fun i k=>q2J (nxP (q06 l1) (q06 l2)) (rsP (q06 l1) (q06 l2)) ((i:Int),(k:Int)));simp only [evA,schC,q9F,q5D,gtA] at f1 f2 f3 kw ⊢;generalize gtab (q06 l1).length (q06 l2).length (fun i k=>q2J (nxP (q06 l1) (q06 l2)) (rsP (q06 l1) (q06 l2)) ((i:Int),(k:Int)))=G at *
  generalize decide ((q06 l1).length=0)=z at *
  generalize q06 l1=S1 at *
  generalize q06 l2=S2 at *
  simp [q10,-y0,-y5,-y4,y3,kw,zB,f1,f2,f3]
theorem blamed_lp {rv:RV} {S1 S2:List Typ} (pr:SndE ⟨false,S1⟩ 0) (nC:SndE ⟨false,S2⟩ 0) {nx:Pr->List Pr} {rs:Pr->Int} (hF:SimF ⟨false,S1⟩ ⟨false,S2⟩ nx rs) {p q:Pr} (hp:inP S1.length S2.length p) {P:List Pr} (hW:WayOk nx rs p P q) {G:List (List AV)} (hG:G=gtab S1.length S2.length (fun i k=>q2J nx rs ((i:Int),(k:Int)))) {t u:Int} (s:MSt)
  (e3:(s.env 3).v=.ptr 3 2 0) (e4:(s.env 4).v=.ptr 4 2 0) (m3:s.mem 3 2=some [⟨.sl false (S1.map typC),.no⟩,⟨.int .i64 t,.no⟩]) (m4:s.mem 4 2=some [⟨.sl false (S2.map typC),.no⟩,⟨.int .i64 u,.no⟩]) (e6:(s.env 6).v=.sl false (P.map prC)) (e7:(s.env 7).v=.int .i64 (rs q)) (e11:(s.env 11).v=.sl false G) (rz:(s.env 94).v=.sl false (P.map prC)) (tk:(s.env 95).v=.int .i64 P.length) (wn:(s.env 96).v=.int .i64 0) (k:Ex->MSt->Option RV) (hk:∀ s',k (.exit 0) s'=some rv):evL allT q01 q0s s k=some rv:=by
 refine q0b P.length (fun i s=>(s.env 3).v=.ptr 3 2 0/\(s.env 4).v=.ptr 4 2 0/\s.mem 3 2=some [⟨.sl false (S1.map typC),.no⟩,⟨.int .i64 t,.no⟩]/\s.mem 4 2=some [⟨.sl false (S2.map typC),.no⟩,⟨.int .i64 u,.no⟩]/\(s.env 6).v=.sl false (P.map prC)/\(s.env 7).v=.int .i64 (rs q)/\(s.env 11).v=.sl false G/\(s.env 94).v=.sl false (P.map prC)/\(s.env 95).v=.int .i64 P.length/\(s.env 96).v=.int .i64 i)
  (fun e s=>e=.exit 0) (fun i hi s k h ih hk=>?_) _ _ ⟨e3,e4,m3,m4,e6,e7,e11,rz,tk,wn⟩ (fun e s h=>by subst h; exact hk _)
 obtain ⟨e3,e4,m3,m4,e6,e7,e11,rz,tk,wn⟩:=h;refine q02 ?_;have fL:S1.length<=32:=hF.wl;have zq:S2.length<=32:=hF.rl;have pP:=hW.len;by_cases da:i<P.length
 ·have fa:(i:Int)<P.length:=by omega
  have hw:=q0H (i:=i);have pf:IntKind.i64.wrap ((P.length:Int) - 1)=(P.length:Int) - 1:=IntWalk.i64_in _ (by omega);have g1:(P.map prC)[i]?=some (prC P[i]):=by simp [da]
  have hx:P[i]?=some P[i]:=by simp [da]
  have jd:inP S1.length S2.length P[i]:=q6b hp hF.rng 1024 _ (hW.all _ (y8 da));have bB:=way_not hp hF.rng fL zq hW (P.length - i - 1) i P[i] (by omega) hx;have ml:=slocal_ev pr nC (i:=P[i].1) (k:=P[i].2) (fun _=>hF);have hb:botE 0 0 S1.length S2.length P[i].1 P[i].2=0:=botE_zero ⟨jd.1,jd.2.1⟩ ⟨jd.2.2.1,jd.2.2.2⟩;have fg:(rs P[i]≠0 ↔ i + 1=P.length)/\(rs P[i]≠0->rs P[i]=rs q):=by
   by_cases hl:i + 1=P.length
   ·obtain ⟨Q,hQ⟩:=hW.lst;have:P[i]=q:=by
     have h2:P[i]?=some q:=by
      have le:i=Q.length:=by rw [hQ] at hl; simp at hl; exact hl
      rw [hQ,le];simp
     rw [hx] at h2;injection h2
    rw [this];exact ⟨⟨fun _=>hl,fun _=>hW.bad⟩,fun _=>rfl⟩
   ·have:=hW.zero i _ hx (by omega);exact ⟨⟨fun h=>absurd this h,fun h=>absurd h hl⟩,fun h=>absurd this h⟩
  have zp:0<i->∃ y,(P.map prC)[i - 1]?=some (prC y)/\inP S1.length S2.length y/\P[i]∈nx y:=fun h0=>by
   obtain ⟨j,rfl⟩:∃ j,i=j + 1:=⟨i - 1,by omega⟩;have hj:P[j]?=some P[j]:=by simp
   exact ⟨P[j],by rw [Nat.add_sub_cancel,yc,hj]; rfl,q6b hp hF.rng 1024 _ (hW.all _ (y8 _)),hW.suc j _ _ hj hx⟩
  have jB:=fun l hl b=>rin_ev l hl b P[i]
  generalize P[i]=x at *
  obtain ⟨a,b⟩:=x;obtain ⟨a0,a1,b0,b1⟩:=jd;dsimp only at a0 a1 b0 b1 ml hb;rw [hb] at ml;have ga:G[a.toNat]?=some [.sl false (brow S2.length fun k=>q2J nx rs (a,(k:Int)))]:=by
   have:a.toNat<S1.length:=by omega
   rw [hG];simp [gtab,this,Int.toNat_of_nonneg a0]
  have kG:G.length=S1.length:=by rw [hG,gtab_len]
  have gb:(brow S2.length fun k=>q2J nx rs (a,(k:Int)))[b.toNat]?=some [.bool false]:=by
   rw [q94 _ (by omega)];simp only [Int.toNat_of_nonneg b0,bB]
  have uf:=q7j S2.length fun k=>q2J nx rs (a,(k:Int))
  generalize (brow S2.length fun k=>q2J nx rs (a,(k:Int)))=B at *
  have c1:¬ a<0:=by omega
  have c2:¬ (S1.length:Int)<=a:=by omega
  have c3:¬ b<0:=by omega
  have c4:¬ (S2.length:Int)<=b:=by omega
  obtain ⟨r,hr⟩:∃ r,rs (a,b)=r:=⟨_,rfl⟩;rw [hr] at fg;simp only [evA,schC,prC,hr] at g1 ml jB;obtain ⟨z1,om⟩:∃ z1,(P.length:Int) - 1=z1:=⟨_,rfl⟩;have pf:IntKind.i64.wrap ((P.length:Int) - 1)=z1:=pf.trans om;have fin:∀ E M n ob gh,(E 3).v=.ptr 3 2 0->(E 4).v=.ptr 4 2 0->M 3 2=s.mem 3 2->M 4 2=s.mem 4 2->(E 6).v=(s.env 6).v->(E 7).v=.int .i64 (rs q)->(E 11).v=(s.env 11).v->(E 94).v=(s.env 94).v->(E 95).v=(s.env 95).v->(E 96).v=.int .i64 ((i + 1:Nat):Int)->evL allT q01 q0s ⟨E,M,n,ob,gh⟩ k=some rv:=fun E M n ob gh h3 h4 h5 h6 h7 h8 h9 lq uk wk=>ih da _ ⟨h3,h4,h5.trans m3,h6.trans m4,h7.trans e6,h8,h9.trans e11,lq.trans rz,uk.trans tk,wk⟩
  clear ih hk;by_cases hl:i + 1=P.length
  ·have po:=fg.1.2 hl;have mR:=fg.2 po;have ll:((i:Int)=z1)=True:=eq_true (by omega);rw [<- mR] at e7 fin;by_cases h0:0<i
   ·obtain ⟨⟨c,d⟩,nB,tv,oa⟩:=zp h0;have uo:=hF.rsuc (c,d) tv;have bz:=hF.len (c,d) tv;have hI:=jB (nx (c,d)) (by omega) (nx (c,d)).isEmpty;rw [decide_eq_true oa] at hI;simp only [evA,schC,prC] at uo hI nB;obtain ⟨y,hy⟩:∃ y:Int,y=((i - 1:Nat):Int):=⟨_,rfl⟩;have aL:IntKind.i64.wrap ((i:Int) - 1)=y:=by rw [IntWalk.i64_in _ (by omega)]; omega
    have dh:0<=y:=by omega
    rw [show i - 1=y.toNat from by omega] at nB;have te:(0:Int)<i:=by omega
    generalize nx (c,d)=L at *
    simp [q0s,-y0,-y5,-y4,y3,e3,e4,m3,m4,e6,e7,e11,rz,tk,wn,fa,g1,a0,b0,c1,c2,c3,c4,ga,gb,kG,uf,ml,po,ll,hw,pf,h0,te,aL,dh,nB,uo,hI];refine fin _ _ _ _ _ ?_ ?_ ?_ ?_ ?_ ?_ ?_ ?_ ?_ ?_ <;> simp [e3,e4,e7]
   ·have te:¬ (0:Int)<i:=by omega
    simp [q0s,-y0,-y5,-y4,y3,e3,e4,m3,m4,e6,e7,e11,rz,tk,wn,fa,g1,a0,b0,c1,c2,c3,c4,ga,gb,kG,uf,ml,po,ll,hw,pf,h0,te];refine fin _ _ _ _ _ ?_ ?_ ?_ ?_ ?_ ?_ ?_ ?_ ?_ ?_ <;> simp [e3,e4,e7]
  ·have po:r=0:=Decidable.byContradiction fun h=>hl (fg.1.1 h)
   have ll:¬ (i:Int)=z1:=by omega
   rw [po] at ml;by_cases h0:0<i
   ·obtain ⟨⟨c,d⟩,nB,tv,oa⟩:=zp h0;have uo:=hF.rsuc (c,d) tv;have bz:=hF.len (c,d) tv;have hI:=jB (nx (c,d)) (by omega) (nx (c,d)).isEmpty;rw [decide_eq_true oa] at hI;simp only [evA,schC,prC] at uo hI nB;obtain ⟨y,hy⟩:∃ y:Int,y=((i - 1:Nat):Int):=⟨_,rfl⟩;have aL:IntKind.i64.wrap ((i:Int) - 1)=y:=by rw [IntWalk.i64_in _ (by omega)]; omega
    have dh:0<=y:=by omega
    rw [show i - 1=y.toNat from by omega] at nB;have te:(0:Int)<i:=by omega
    generalize nx (c,d)=L at *
    simp [q0s,-y0,-y5,-y4,y3,e3,e4,m3,m4,e6,e7,e11,rz,tk,wn,fa,g1,a0,b0,c1,c2,c3,c4,ga,gb,kG,uf,ml,ll,hw,pf,h0,te,aL,dh,nB,uo,hI];refine fin _ _ _ _ _ ?_ ?_ ?_ ?_ ?_ ?_ ?_ ?_ ?_ ?_ <;> simp [e3,e4,e7]
   ·have te:¬ (0:Int)<i:=by omega
    simp [q0s,-y0,-y5,-y4,y3,e3,e4,m3,m4,e6,e7,e11,rz,tk,wn,fa,g1,a0,b0,c1,c2,c3,c4,ga,gb,kG,uf,ml,ll,hw,pf,h0,te];refine fin _ _ _ _ _ ?_ ?_ ?_ ?_ ?_ ?_ ?_ ?_ ?_ ?_ <;> simp [e3,e4,e7]
 ·have fa:¬ (i:Int)<P.length:=by omega
  simp [q0s,-y0,-y5,-y4,y3,tk,wn,fa];exact hk _ _ rfl
theorem blamed20_ev {dn cn:Bool} {l:List Nde} {cs:List Chg} {T U:Int} (h:CaseOk l cs T U):evA 8 [.agg (q9F dn l cn cs T U)] (.bool true):=by
 have zB:=awake20_ev;obtain ⟨r,hr,kw⟩:=of20_ev (dn:=dn) (cn:=cn) h;refine q00 (c:=q0U) rfl rfl ?_;rcases hr with rfl | ⟨l1,l2,t1,u1,o1,o2,jd,rfl⟩
 ·simp only [q9F,badRes] at kw ⊢;simp [q0U,-y0,-y5,-y4,y3,kw,zB]
 ·have s1:=q7q o1;have s2:=q7q o2;have hF:=simF (draft_F o1) (draft_F o2);have hb:botE 0 0 (q06 l1).length (q06 l2).length t1 u1=0:=botE_zero ⟨jd.1,jd.2.1⟩ ⟨jd.2.2.1,jd.2.2.2⟩;have f1:=greatest_ev s1 s2 hF (q9G o1);have f2:=sblame_ev s1 s2 (i:=t1) (k:=u1) (fun _=>hF);have f3:=scompat_ev s1 s2 (i:=t1) (k:=u1) (fun _=>hF) (by dsimp only; rw [hb]; decide);have lA:=blm_fine (nxP (q06 l1) (q06 l2)) (rsP (q06 l1) (q06 l2)) (t1,u1);have pF:=fun e (h:blm (nxP (q06 l1) (q06 l2)) (rsP (q06 l1) (q06 l2)) (t1,u1)=some e)=>blm_way jd hF.rng hF.wl hF.rl h
  have na:=fun e (h:blm (nxP (q06 l1) (q06 l2)) (rsP (q06 l1) (q06 l2)) (t1,u1)=some e)=>blm_ne h
  dsimp only at f2 f3;rw [hb] at f2 f3;have ot:=gtab_len (q06 l1).length (q06 l2).length (fun i k=>q2J (nxP (q06 l1) (q06 l2)) (rsP (q06 l1) (q06 l2)) ((i:Int),(k:Int)));have hz:decide ((q06 l1).length=0)=false:=decide_eq_false (by have:=q9G o1; omega);simp only [evA,schC,q9F,q5D,gtA,hz] at f1 f2 f3 kw ⊢;obtain ⟨G,hG⟩:∃ G,gtab (q06 l1).length (q06 l2).length (fun i k=>q2J (nxP (q06 l1) (q06 l2)) (rsP (q06 l1) (q06 l2)) ((i:Int),(k:Int)))=G:=⟨_,rfl⟩;rw [hG] at f1 ot;cases uf:blm (nxP (q06 l1) (q06 l2)) (rsP (q06 l1) (q06 l2)) (t1,u1) with
  | none =>
   rw [uf] at f2 lA;rw [lA.1 rfl] at f3;simp only [blmA] at f2;clear pF na hF hG;generalize q06 l1=S1 at *
   generalize q06 l2=S2 at *
   simp at f2 f3;simp [q0U,-y0,-y5,-y4,y3,kw,zB,f1,f2,f3,ot]
  | some e =>
   have hW:=pF e uf;have dK:q2J (nxP (q06 l1) (q06 l2)) (rsP (q06 l1) (q06 l2)) (t1,u1)=false:=by
    cases hf:q2J (nxP (q06 l1) (q06 l2)) (rsP (q06 l1) (q06 l2)) (t1,u1) with
    | false=>rfl
    | true=>rw [lA.2 hf] at uf; cases uf
   rw [uf] at f2;rw [dK] at f3;simp only [blmA] at f2;simp at f2 f3;obtain ⟨q,P,z⟩:=e;dsimp only at hW f2;have gE:=hW.fst;have g0:(P.map prC)[0]?=some [.int .i64 t1,.int .i64 u1]:=by rw [yc,gE]; rfl
   have eg:¬ P.length=0:=by
    have:=(yb.1 gE).1;omega
   have eh:P≠[]:=fun e=>eg (by rw [e]; rfl)
   simp [q0U,-y0,-y5,-y4,y3,kw,zB,f1,f2,f3,ot,g0,eg,eh];refine blamed_lp s1 s2 hF jd hW hG.symm (t:=t1) (u:=u1) _ ?_ ?_ ?_ ?_ ?_ ?_ ?_ ?_ ?_ ?_ _ (fun s'=>?_)
   all_goals simp [-y0,-y5,-y4,y3]
end Go.Proofs.YtbnlmgncbgaepaaGreat
