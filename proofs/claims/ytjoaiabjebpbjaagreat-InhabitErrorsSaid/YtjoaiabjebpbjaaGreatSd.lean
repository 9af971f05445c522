/- A part of the proof. -/
import Derived.Test.YtjoaiabjebpbjaaGreatSc
import Derived.SizedLaws
set_option linter.all false
set_option maxRecDepth 100000
set_option maxHeartbeats 8000000
open List renaming getElem?_eq_getElem → y4, getElem_mem → y5, all_eq_true → y6, getElem?_map → y8, mem_cons → yc, drop_eq_nil_of_le → ye, mem_cons_of_mem → yh, mem_cons_self → yk, getElem?_eq_some_iff → ym, getElem_of_mem → yy, mem_map → yB, mem_append → yE, take_append_drop → yR
open Bool renaming and_eq_true → y7
open Option renaming bind_eq_some_iff → yb, map_eq_some_iff → yg
open Nat renaming le_refl → yf, succ_mul → yt, le_trans → yw, zero_add → yD, mul_le_mul_right → yX
namespace Go.Proofs.YtjoaiabjebpbjaaGreat
open Go
section
open Go Go.RowKit Go.ChangeShapes Go.WideShapes Go.Deep
def nO (P:Program) (r:TypeId->List AV->Prop):List Field->List AV->Prop
 | [],fb=>fb=[]
 | f :: fs,fb=>∃ a b,fb=a++b/\a.length=P.cellsOf f.type/\r f.type a/\nO P r fs b
def ArrT (P:Program) (r:TypeId->List AV->Prop) (e:TypeId):Nat->List AV->Prop
 | 0,fb=>fb=[]
 | n + 1,fb=>∃ a b,fb=a++b/\a.length=P.cellsOf e/\r e a/\ArrT P r e n b
def zJ (P:Program):Nat->TypeId->List AV->Prop
 | 0,_,_=>False
 | n + 1,t,fb=>match P.underlying t with
  | some .bool=>∃ b,fb=[.bool b]
  | some (.int k)=>∃ i,fb=[.int k i]/\(Lit.int k i).wf=true
  | some .string=>∃ s,fb=[.str s]/\s.size<=maxLen
  | some (.slice e)=>∃ nl els,fb=[.sl nl els]/\els.length<=maxLen/\els.length * P.bytesOf e<=reachBytes/\(nl=true->els=[])/\∀ x∈els,x.length=P.cellsOf e/\zJ P n e x
  | some (.struct fs)=>nO P (zJ P n) fs.toList fb
  | some (.array k e)=>ArrT P (zJ P n) e k fb
  | _=>False
def BX (P:Program) (ts:List TypeId):Nat->Nat->List Field->Bool
 | off,total,[]=>decide (off=total)
 | off,total,f :: fs=>decide (f.offset=off)&&ts.contains f.type&&BX P ts (off + P.cellsOf f.type) total fs
def BP (P:Program) (ts:List TypeId) (t:TypeId):Bool:=match P.underlying t with
 | some .bool | some (.int _) | some .string=>decide (P.cellsOf t=1)
 | some (.slice e)=>ts.contains e&&decide (0<P.cellsOf e)&&decide (P.cellsOf t=1)
 | some (.struct fs)=>BX P ts 0 (P.cellsOf t) fs.toList
 | some (.array k e)=>ts.contains e&&decide (0<P.cellsOf e)&&decide (k * P.cellsOf e=P.cellsOf t)
 | _=>false
section
variable {H:Type} {enc:TypeId × Value->H} {P:Program} {w:World} {base:Nat} {spare:Nat->Bool} {held:Bool}
theorem F8 {t e:TypeId} {fuel:Nat} {cs:List Value} {x:DataW H × List MemPlace} (ht:P.underlying t=some (.slice e)) (h:DataW.trod enc P w base spare held fuel t cs=some x) :
  (∃ n,fuel=n + 1)/\((cs=[.slice none 0 0]) ∨
  ∃ (a:Addr) (len cap n:Nat) (y:Nat->DataW H × List MemPlace) (D sp:List (DataW H)),cs=[.slice (some a) len cap]/\fuel=n + 1/\len<=cap/\cap<=maxLen/\x.1=.slice D sp/\D.length=len/\(∀ i,i<len->(y i).1∈D) ∧
   ∀ i,i<len->∃ px,w.cells? base (a.add (i * P.cellsOf e)) (P.cellsOf e)=some px/\DataW.trod enc P w base spare held n e px=some (y i)):=by
 refine ⟨?_,?_⟩
 ·cases fuel with
  | zero=>simp [DataW.trod] at h
  | succ n=>exact ⟨n,rfl⟩
 rcases DataW.trod_slice ht h with h0 | ⟨a,len,cap,elems,rest,n,ii,rfl,rfl,hb,hl,hm,ba,sc,hsp,hns⟩
 ·exact Or.inl h0.1
 right;refine ⟨a,len,cap,n,fun i=>elems.getD i (.nil,[]),elems.map (·.1),rest.map (·.1),rfl,ii,hl,hm,rfl,by simpa using ba,fun i hi=>?_,fun i hi=>?_⟩
 ·have e:elems.getD i (.nil,[])=elems[i]'(by omega):=by simp [List.getD,y4 (show i<elems.length by omega)]
  show (elems.getD i (.nil,[])).1∈_;rw [e];exact List.mem_map_of_mem (y5 _)
 have key:=sc i hi;rw [y4 (by omega)] at key;obtain ⟨px,h1,h2⟩:=yb.1 key;refine ⟨px,h1,?_⟩;rw [h2];simp [List.getD,y4 (show i<elems.length by omega)]
theorem QQ {e:TypeId}:∀ {D:List (DataW H)} {d:DataW H},d∈D->∀ m∈d.weights P e,m∈DataW.weightsAll P e D
 | d0 :: r,d,h,m,hm=>by
  simp only [DataW.weightsAll,yE];rcases yc.1 h with rfl | h
  ·exact .inl hm
  ·exact .inr (QQ h m hm)
def NM (P:Program) (t:TypeId) (d:DataW H):Prop:=∀ m∈d.weights P t,m<=reachBytes
section
variable {t e:TypeId} {D sp:List (DataW H)} (ht:P.underlying t=some (.slice e)) (h:NM P t (.slice D sp))
include t e D sp ht h
theorem light_elem {d:DataW H} (hd:d∈D):NM P e d:=fun m hm=>h m (by
 simp only [DataW.weights,ht,yc,yE];exact .inr (.inl (QQ hd m hm)))
theorem light_len:D.length * P.bytesOf e<=reachBytes:=by
 have:=h ((D.length + sp.length) * P.bytesOf e) (by simp [DataW.weights,ht]);exact yw (yX _ (by omega)) this
end
theorem light_arr {t e:TypeId} {k:Nat} {D:List (DataW H)} (ht:P.underlying t=some (.array k e)) (h:NM P t (.agg D)) {d:DataW H} (hd:d∈D):NM P e d:=fun m hm=>h m (by
 simp only [DataW.weights,ht];exact QQ hd m hm)
theorem i8 {t:TypeId} {fs:Array Field} {D:List (DataW H)} (ht:P.underlying t=some (.struct fs)) (h:NM P t (.agg D)) {i:Nat} {f:Field} {d:DataW H} (hf:fs.toList[i]?=some f) (hd:D[i]?=some d):NM P f.type d:=fun m hm=>h m (by
 simp only [DataW.weights,ht];exact DataW.weights_mem_each (j:=i) (by rw [y8,hf]; rfl) hd m hm)
theorem R7 {ts:List TypeId} {n:Nat} {cs:List Value}
  (ih:∀ (t:TypeId) (cs:List Value) (x:DataW H × List MemPlace),ts.contains t=true->NM P t x.1->DataW.trod enc P w base spare held n t cs=some x->∃ fb,DC tU w fb cs/\zJ P n t fb/\fb.length=P.cellsOf t) :
  ∀ (fs:List Field) (off:Nat),BX P ts off cs.length fs=true->(∀ f∈fs,∃ x,NM P f.type x.1/\DataW.trod enc P w base spare held n f.type ((cs.drop f.offset).take (P.cellsOf f.type))=some x)->∃ fb,DC tU w fb (cs.drop off)/\nO P (zJ P n) fs fb
 | [],off,h,_=>by
  simp only [BX,decide_eq_true_eq] at h;refine ⟨[],?_,rfl⟩;rw [ye (by omega)];rfl
 | f :: fs,off,h,hx=>by
  simp only [BX,y7,decide_eq_true_eq] at h;obtain ⟨⟨ho,ht⟩,h⟩:=h;obtain ⟨x,fa,ZN⟩:=hx f yk;obtain ⟨fb,h1,h2,ci⟩:=ih _ _ _ ht fa ZN;obtain ⟨bs,h3,h4⟩:=R7 ih fs (off + P.cellsOf f.type) h fun g hg=>hx g (yh _ hg)
  refine ⟨fb++bs,?_,fb,bs,rfl,ci,h2,h4⟩;have:cs.drop off=(cs.drop off).take (P.cellsOf f.type)++cs.drop (off + P.cellsOf f.type):=by rw [<- List.drop_drop,yR]
  rw [this];rw [ho] at h1;exact qJ h1 h3
theorem array_T {e:TypeId} {n:Nat} {cs:List Value} (f:∀ i:Nat,i * P.cellsOf e<cs.length->∃ fb,DC tU w fb ((cs.drop (i * P.cellsOf e)).take (P.cellsOf e))/\zJ P n e fb/\fb.length=P.cellsOf e) (hp:0<P.cellsOf e) :
  ∀ (m i:Nat),(i + m) * P.cellsOf e=cs.length->∃ fb,DC tU w fb (cs.drop (i * P.cellsOf e))/\ArrT P (zJ P n) e m fb
 | 0,i,h=>by
  refine ⟨[],?_,rfl⟩;rw [ye (by simp at h; omega)];rfl
 | m + 1,i,h=>by
  have h1:(i + 1 + m) * P.cellsOf e=cs.length:=by rw [<- h]; congr 1; omega
  have hs:(i + 1) * P.cellsOf e=i * P.cellsOf e + P.cellsOf e:=yt i _;have fa:i * P.cellsOf e<cs.length:=by
   have:(i + 1) * P.cellsOf e<=(i + (m + 1)) * P.cellsOf e:=yX _ (by omega);omega
  obtain ⟨fb,g1,g2,g2'⟩:=f i fa;obtain ⟨av2,g3,g4⟩:=array_T f hp m (i + 1) h1;refine ⟨fb++av2,?_,fb,av2,rfl,g2',g2,g4⟩;have:cs.drop (i * P.cellsOf e)=(cs.drop (i * P.cellsOf e)).take (P.cellsOf e)++cs.drop ((i + 1) * P.cellsOf e):=by rw [hs,<- List.drop_drop,yR]
  rw [this];exact qJ g1 g3
theorem gN {av:Av}:∀ {l:List AV} {us:List Value},DC av w l us->l.length=us.length
 | [],us,h=>by simp only [DC] at h; subst h; rfl
 | a :: r,us,h=>by
  simp only [DC] at h;obtain ⟨u,oa,rfl,_,_,h⟩:=h;simp [gN h]
theorem s6 {ts:List TypeId} (hg:ts.all (BP P ts)=true):∀ (n:Nat) (t:TypeId) (cs:List Value) (x:DataW H × List MemPlace),ts.contains t=true->NM P t x.1->DataW.trod enc P w base spare held n t cs=some x->∃ fb,DC tU w fb cs/\zJ P n t fb/\fb.length=P.cellsOf t
 | 0,t,cs,x,_,_,hx=>by simp [DataW.trod] at hx
 | n + 1,t,cs,x,jb,ev,hx=>by
  have h:BP P ts t=true:=y6.1 hg t (by simpa using jb);unfold BP at h;split at h
  ·rename_i ht;simp only [decide_eq_true_eq] at h;obtain ⟨b,rfl,_⟩:=DataW.trod_bool ht hx;exact ⟨[.bool b],⟨_,_,rfl,rfl,rfl,rfl⟩,by simp only [zJ,ht]; exact ⟨b,rfl⟩,by simp [h]⟩
  ·rename_i kk ht;simp only [decide_eq_true_eq] at h;obtain ⟨b,rfl,_,hw⟩:=DataW.trod_int ht hx;exact ⟨[.int kk b],⟨_,_,rfl,rfl,rfl,rfl⟩,by simp only [zJ,ht]; exact ⟨b,rfl,hw⟩,by simp [h]⟩
  ·rename_i ht;simp only [decide_eq_true_eq] at h;obtain ⟨b,rfl,_,hw⟩:=DataW.trod_string ht hx;exact ⟨[.str b],⟨_,_,rfl,rfl,rfl,rfl⟩,by simp only [zJ,ht]; exact ⟨b,rfl,hw⟩,by simp [h]⟩
  ·rename_i e ht;simp only [y7,decide_eq_true_eq] at h;obtain ⟨⟨he,ab⟩,fl⟩:=h;rcases (F8 ht hx).2 with rfl | ⟨a,len,cap,n',y,D,sp,rfl,hn,ub,pr,gj,hDl,hyD,hi⟩
   ·exact ⟨[.sl true []],⟨_,_,rfl,⟨none,0,rfl,yf _,(fun _ h=>by cases h),fun _=>⟨rfl,rfl,rfl⟩,fun h=>by cases h⟩,rfl,rfl⟩,by simp only [zJ,ht]; exact ⟨true,[],rfl,Nat.zero_le _,by simp,fun _=>rfl,(fun _ h=>by cases h)⟩,by simp [fl]⟩
   ·have jl:n'=n:=by omega
    subst jl;rw [gj] at ev;have nj:=light_len ht ev;rw [hDl] at nj;have ka:∀ i:Nat,∃ fb:List AV,i<len->((fb.length=P.cellsOf e/\zJ P n' e fb)/\∃ us,DC tU w fb us/\us.length=P.cellsOf e/\∀ j,j<P.cellsOf e->w.cell? ((a.add (i * P.cellsOf e)).add j)=us[j]?):=fun i=>by
     by_cases fa:i<len
     ·obtain ⟨us,fl,au⟩:=hi i (by omega);obtain ⟨fb,h1,h2,ci⟩:=s6 hg n' e us _ he (light_elem ht ev (hyD i fa)) au;obtain ⟨_,g1,g2⟩:=World.cells?_some fl;exact ⟨fb,fun _=>⟨⟨ci,h2⟩,us,h1,g1,g2⟩⟩
     ·exact ⟨[],fun h=>absurd h fa⟩
    have ni:=Classical.axiomOfChoice ka;obtain ⟨f,hf⟩:=ni;have ed:∀ fb∈(List.range len).map f,fb.length=P.cellsOf e/\zJ P n' e fb:=fun fb ha=>by
     obtain ⟨i,jc,rfl⟩:=yB.1 ha;exact (hf i (List.mem_range.1 jc)).1
    refine ⟨[.sl false ((List.range len).map f)],⟨_,_,rfl,⟨some a,cap,by simp,by simpa using ub,fun x hx y hy=>((ed x hx).1).trans ((ed y hy).1).symm,(fun h=>by cases h),fun _=>⟨fun h=>(by cases h),fun h0=>?_⟩⟩,rfl,rfl⟩,by simp only [zJ,ht]; exact ⟨false,_,rfl,by simp; omega,by simpa using nj,(fun h=>by cases h),ed⟩,by simp [fl]⟩;have sf:0<len:=by simpa using h0
    have aw:∃ b off,a=⟨b,off,none⟩:=by
     obtain ⟨_,us,_,g1,g2⟩:=hf 0 sf;have g3:=g2 0 ab;simp only [Nat.zero_mul,Addr.add,if_true] at g3;rw [y4 (by omega)] at g3;obtain ⟨b,off,sp⟩:=a;cases sp with
     | none=>exact ⟨b,off,rfl⟩
     | some q =>
      simp only [World.cell?] at g3;split at g3
      ·simp at g3
      ·cases g3
    obtain ⟨b,off,rfl⟩:=aw;refine ⟨b,off,rfl,S4 (fun x hx=>(ed x hx).1) fun i fb xo=>?_⟩;rw [y8] at xo;obtain ⟨i',jc,rfl⟩:=yg.1 xo;rw [ym] at jc;obtain ⟨fa,th⟩:=jc;simp at fa th;subst th;obtain ⟨_,us,g0,g1,g2⟩:=hf i fa;refine cJ g0 fun j u hu=>⟨?_,fun h=>h⟩
    have hj:j<P.cellsOf e:=by rw [<- g1]; exact (ym.1 hu).1
    have:=g2 j hj;rw [Addr.add_lit,Addr.add_lit,hu] at this;exact this
  ·rename_i fs ht;obtain ⟨xs,n',hn,rfl,ba,hxl,hf⟩:=DataW.trod_struct ht hx;have jl:n'=n:=by omega
   subst jl;rw [<- ba] at h;obtain ⟨fb,h1,h2⟩:=R7 (cs:=cs) (n:=n') (fun t cs x=>s6 hg n' t cs x) fs.toList 0 h fun g hg=>by
    obtain ⟨i,hi,he⟩:=yy hg;have jc:i<fs.size:=by simpa using hi
    have h1:=hf i g (by rw [<- he]; simp [jc]);refine ⟨xs[i]'(by omega),i8 ht ev (i:=i) (f:=g) (by rw [<- he]; simp [jc]) ?_,by rw [h1]; exact y4 (by omega)⟩;rw [y8,y4 (by omega)];rfl
   rw [List.drop_zero] at h1;exact ⟨fb,h1,by simp only [zJ,ht]; exact h2,(gN h1).trans ba⟩
  ·rename_i k e ht;simp only [y7,decide_eq_true_eq] at h;obtain ⟨⟨he,ab⟩,fl⟩:=h;obtain ⟨xs,m,hm,rfl,ba,hxl,hf⟩:=DataW.trod_array ht hx;have tb:m=n:=by omega
   subst tb;obtain ⟨fb,h1,h2⟩:=array_T (cs:=cs) (n:=m) (e:=e) (fun i hi=>by
    have hik:i<k:=by
     rw [ba,<- fl] at hi;exact Nat.lt_of_mul_lt_mul_right hi
    have h1:=hf i hik;rw [y4 (by omega)] at h1;exact s6 hg m e _ _ he (light_arr ht ev (List.mem_map_of_mem (y5 _))) h1) ab k 0 (by rw [yD,ba,fl])
   rw [Nat.zero_mul,List.drop_zero] at h1;exact ⟨fb,h1,by simp only [zJ,ht]; exact h2,(gN h1).trans ba⟩
  ·cases h
def ParT (P:Program) (t:TypeId) (a:AV):Prop:=∃ n,(xF P t=true/\∃ cs,a=.agg cs/\zJ P n t cs)\/(xF P t=false/\zJ P n t [a])
def ArgsT (P:Program):List TypeId->List AV->Prop
 | [],xs=>xs=[]
 | t :: ts,xs=>∃ a r,xs=a :: r/\ParT P t a/\ArgsT P ts r
theorem par_T {ts:List TypeId} (hg:ts.all (BP P ts)=true) {t:TypeId} {r:Reach} {b0:Nat} {v:Value} {d:DataW H} {p:List MemPlace} (hs:ts.contains t=true) (hv:Value.okWide P w r b0 t v) (ev:NM P t d) (h:DataW.Trod enc P w base spare held t v d p) :
  ∃ a,NA Ix.none tU tU w a v/\ParT P t a:=by
 obtain ⟨fuel,hf⟩:=h;obtain ⟨xs,h1,h2,_⟩:=s6 hg fuel t _ _ hs ev hf;have one:∀ (u:Value),v=u->v.cells.toList=[u]->xF P t=false->(∀ a,zJ P fuel t [a]->a.leaf=true)->∃ a,NA Ix.none tU tU w a v/\ParT P t a:=fun u hu hc hw jm=>by
  rw [hc] at h1;have hl:=gN h1
  match xs,hl with
  | [a],_ =>
   simp only [DC] at h1;obtain ⟨u',_,e,h0,_,_⟩:=h1;injection e with e;subst e;exact ⟨a,by rw [hu]; exact DP h0 (jm a h2),fuel,.inr ⟨hw,h2⟩⟩
 cases fuel with
 | zero=>exact h2.elim
 | succ k =>
  have fy:BP P ts t=true:=y6.1 hg t (by simpa using hs);unfold BP at fy;split at fy
  ·rename_i ht;obtain ⟨b,rfl⟩:=okWide_bool ht hv;refine one _ rfl rfl (by simp [xF,ht]) fun a ha=>?_
   simp only [zJ,ht] at ha;obtain ⟨b',e⟩:=ha;injection e with e;subst e;rfl
  ·rename_i kk ht;obtain ⟨b,rfl⟩:=okWide_int ht hv;refine one _ rfl rfl (by simp [xF,ht]) fun a ha=>?_
   simp only [zJ,ht] at ha;obtain ⟨b',e,_⟩:=ha;injection e with e;subst e;rfl
  ·rename_i ht;obtain ⟨b,rfl⟩:=okWide_string ht hv;refine one _ rfl rfl (by simp [xF,ht]) fun a ha=>?_
   simp only [zJ,ht] at ha;obtain ⟨b',e,_⟩:=ha;injection e with e;subst e;rfl
  ·rename_i e' ht;obtain ⟨A,n,c,rfl⟩:=okWide_slice ht hv;refine one _ rfl rfl (by simp [xF,ht]) fun a ha=>?_
   simp only [zJ,ht] at ha;obtain ⟨nl,els,e,_⟩:=ha;injection e with e;subst e;rfl
  ·rename_i fs ht;have:∃ cs,v=.agg cs:=by
    simp only [Value.okWide,ht] at hv;obtain ⟨cs,hv,_⟩:=hv;exact ⟨cs,hv⟩
   obtain ⟨cs,rfl⟩:=this;exact ⟨.agg xs,⟨cs,rfl,mD h1⟩,k + 1,.inl ⟨by simp [xF,ht],xs,rfl,h2⟩⟩
  ·rename_i n' e' ht;have:∃ cs,v=.agg cs:=by
    simp only [Value.okWide,ht] at hv;obtain ⟨cs,hv,_⟩:=hv;exact ⟨cs,hv⟩
   obtain ⟨cs,rfl⟩:=this;exact ⟨.agg xs,⟨cs,rfl,mD h1⟩,k + 1,.inl ⟨by simp [xF,ht],xs,rfl,h2⟩⟩
  ·cases fy
theorem args_T {T:List TypeId} (hg:T.all (BP P T)=true) {r:Reach} {b0:Nat}:∀ {ts:List TypeId} {vs:List Value} {ds:List (DataW H)} {p:List MemPlace},DataW.TrodAll enc P w base spare held ts vs ds p->(∀ (j:Nat) t v,ts[j]?=some t->vs[j]?=some v->Value.okWide P w r b0 t v)->(∀ m∈DataW.weightsEach P ts ds,m<=reachBytes)->ts.all (fun t=>T.contains t)=true →
  ∃ xs,gL Ix.none tU tU w xs vs/\ArgsT P ts xs
 | [],vs,ds,p,h,_,_,_=>by
  cases vs with
  | nil=>exact ⟨[],rfl,rfl⟩
  | cons=>cases ds <;> exact h.elim
 | t :: ts,vs,ds,p,h,hv,hw,hs=>by
  obtain ⟨v,xt,d,ds',p',q',rfl,rfl,rfl,h0,h⟩:=trodAll_cons h;simp only [DataW.weightsEach,yE] at hw;simp only [List.all_cons,y7] at hs;obtain ⟨a,h1,h2⟩:=par_T hg hs.1 (hv 0 t v rfl rfl) (fun m hm=>hw m (.inl hm)) h0;obtain ⟨xs,h3,h4⟩:=args_T hg h (fun j t' v' e e'=>hv (j + 1) t' v' (by simpa using e) (by simpa using e')) (fun m hm=>hw m (.inr hm)) hs.2;exact ⟨a :: xs,⟨v,xt,rfl,h1,h3⟩,a,xs,rfl,h2,h4⟩
end
end
abbrev joinA (P:Program) (f:FuncId) (fn:Func) (s:ChangeSpec) (c:OpenClaim):Bool:=(c.wf (OpenSpec.ofChange s)&&laidOutB P&&mapsRowed P&&fn.params.all (P.readableRec ·)&&namedTie P c.named s.vars&&(c.stops == [])&&(P.stops == [])&&(c.knobs == [])&&(P.stopKnobs == []))
abbrev joinB (P:Program) (f:FuncId) (fn:Func) (s:ChangeSpec) (c:OpenClaim):Bool:=((c.inPlace == P.inPlace f)&&(c.unfollowed == P.unfollowed f))
abbrev joinC (P:Program) (f:FuncId) (fn:Func) (s:ChangeSpec) (c:OpenClaim):Bool:=((c.recurses == P.recurses f)&&(c.named == P.varsNamed f))
abbrev joinD (P:Program) (f:FuncId) (fn:Func) (s:ChangeSpec) (c:OpenClaim):Bool:=((c.maps == (fn.params.toList++s.plain.varTypes P).any (P.mapsRec ·))&&(c.ifaces == (fn.params.toList++s.plain.varTypes P).any (P.ifacesRec ·))&&(c.mapsOut == P.mapsAmong fn.resultTypes.toList)&&(c.loops == (fn.params.toList++s.plain.varTypes P).any (P.loopsFrom ·))&&(c.wideKeys == (fn.params.toList++s.plain.varTypes P++fn.resultTypes.toList).any (P.wideKeysFrom ·))&&s.vars.all (P.varReadable ·)&&fn.resultTypes.all (fun t=>P.readableRec t&&decide (t<P.types.size))&&(c.ifacesOut == fn.resultTypes.toList.any (P.ifacesRec ·))&&(c.loopsOut == fn.resultTypes.toList.any (P.loopsFrom ·))&&(c.plainKeys == P.plainKeys)&&c.shortTexts.isNone&&P.stopsHeard)
abbrev joinE (P:Program) (f:FuncId) (fn:Func) (s:ChangeSpec) (c:OpenClaim):Bool:=P.mayEnter
abbrev joinF (P:Program) (f:FuncId) (fn:Func) (s:ChangeSpec) (c:OpenClaim):Bool:=(c.lifted == P.liftsFinal)
abbrev joinG (P:Program) (f:FuncId) (fn:Func) (s:ChangeSpec) (c:OpenClaim):Bool:=((P.make == some c.make)&&(c.kinds == (if c.domain.isEmpty then [] else fn.params.toList.map fun t=>match P.underlying t with | some (.int k)=>some k | _=>none))&&(c.pinned == c.pinnedBy)&&(c.veiled == (fn.params.toList++s.plain.varTypes P++fn.resultTypes.toList).any (P.veiledRec ·))&&c.veiledFits P fn.params.toList (fn.params.toList++s.plain.varTypes P++fn.resultTypes.toList))
theorem N2 {P:Program} {f:FuncId} {fn:Func} {s:ChangeSpec} {c:OpenClaim} (h1:joinA P f fn s c=true) (h2:joinB P f fn s c=true) (ci:joinC P f fn s c=true) (h3:joinD P f fn s c=true) (h4:joinE P f fn s c=true) (h5:joinF P f fn s c=true) (h6:joinG P f fn s c=true):joinedFacts P f fn s c=true:=by
 have e:joinedFacts P f fn s c=((c.wf (OpenSpec.ofChange s)&&laidOutB P&&mapsRowed P&&fn.params.all (P.readableRec ·)&&namedTie P c.named s.vars&&(c.stops == [])&&(P.stops == [])&&(c.knobs == [])&&(P.stopKnobs == []))&&(((c.inPlace == P.inPlace f)&&(c.unfollowed == P.unfollowed f))&&(((c.recurses == P.recurses f)&&(c.named == P.varsNamed f))&&(((c.maps == (fn.params.toList++s.plain.varTypes P).any (P.mapsRec ·))&&(c.ifaces == (fn.params.toList++s.plain.varTypes P).any (P.ifacesRec ·))&&(c.mapsOut == P.mapsAmong fn.resultTypes.toList)&&(c.loops == (fn.params.toList++s.plain.varTypes P).any (P.loopsFrom ·))&&(c.wideKeys == (fn.params.toList++s.plain.varTypes P++fn.resultTypes.toList).any (P.wideKeysFrom ·))&&s.vars.all (P.varReadable ·)&&fn.resultTypes.all (fun t=>P.readableRec t&&decide (t<P.types.size))&&(c.ifacesOut == fn.resultTypes.toList.any (P.ifacesRec ·))&&(c.loopsOut == fn.resultTypes.toList.any (P.loopsFrom ·))&&(c.plainKeys == P.plainKeys)&&c.shortTexts.isNone&&P.stopsHeard)&&(P.mayEnter&&((c.lifted == P.liftsFinal)&&((P.make == some c.make)&&(c.kinds == (if c.domain.isEmpty then [] else fn.params.toList.map fun t=>match P.underlying t with | some (.int k)=>some k | _=>none))&&(c.pinned == c.pinnedBy)&&(c.veiled == (fn.params.toList++s.plain.varTypes P++fn.resultTypes.toList).any (P.veiledRec ·))&&c.veiledFits P fn.params.toList (fn.params.toList++s.plain.varTypes P++fn.resultTypes.toList)))))))):=by
  simp only [joinedFacts,Bool.and_assoc];rfl
 dsimp only [joinA,joinB,joinC,joinD,joinE,joinF,joinG] at h1 h2 ci h3 h4 h5 h6;rw [e,h1,h2,ci,h3,h4,h5,h6];rfl
end Go.Proofs.YtjoaiabjebpbjaaGreat
