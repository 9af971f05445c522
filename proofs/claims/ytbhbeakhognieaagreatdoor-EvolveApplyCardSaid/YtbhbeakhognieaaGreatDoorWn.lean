/- A part of the proof. -/
import Derived.Test.YtbhbeakhognieaaGreatDoorWm
set_option linter.all false
set_option maxRecDepth 100000
set_option maxHeartbeats 8000000
open Option renaming bind_some → J, map_some → yt
open List renaming range_succ → y0, map_map → y5, length_map → y7, all_eq_true → y8, length_append → yb, getElem?_map → yc, getElem?_eq_getElem → yg, getElem?_eq_some_iff → yh, drop_eq_getElem_cons → yj, map_cons → yk, length_take → ym, drop_eq_nil_of_le → yn, append_assoc → yo, mem_cons_self → yp, mem_append → yq, getElem?_drop → yu, flatten_cons → yv, mem_cons → yw, getElem?_take → yy, append_nil → yz, length_cons → yA, length_drop → yC, mem_of_getElem? → yD, getElem?_append_right → yE, getElem_mem → yF, mem_cons_of_mem → yG, map_congr_left → yH, getElem?_append_left → yL, nodup_append → yN, mem_map → yQ, map_nil → yR, take_of_length_le → yS, mem_flatMap → yV, nil_append → yW, drop_zero → yY, getElem?_cons_succ → yZ, getElem?_cons_zero → Y01, mem_singleton → Y03, take_append_drop → Y05, getElem?_eq_none → Y07
open Int renaming toNat_lt → y6
open Bool renaming and_eq_true → ye, false_eq_true → yI
open Nat renaming le_refl → yf, zero_add → yr, le_trans → yB, add_zero → yJ, add_mul → yK, min_eq_left → yU, mul_le_mul_right → Y02
namespace Go.Proofs.YtbhbeakhognieaaGreatDoor
open Go
structure RB where
 kind:Int
 ty:Int
 id:Int
 name:ByteArray
 mem:fB
 sym:LC
 low:Int
 high:Int
 max:Int
 opn:Bool
 key:Int
 elem:Int
def tC (e:RB):List AV:=[.int .i64 e.kind,.int .i64 e.ty,.int .i64 e.id,.str e.name]++fA e.mem++jA e.sym++[.int .i64 e.low,.int .i64 e.high,.int .i64 e.max,.bool e.opn,.int .i64 e.key,.int .i64 e.elem]
theorem edC_len (e:RB):(tC e).length=25:=rfl
theorem sC (l:List RB):AA 25 (l.map tC)=true:=SD _ _ _ edC_len
def fB.zero:fB:=⟨0,⟨#[]⟩,0,false,false,.zero⟩
def RB.zero:RB:=⟨0,0,0,⟨#[]⟩,.zero,⟨0,⟨#[]⟩⟩,0,0,0,false,0,0⟩
theorem emem1_ev (x:fB) (id:Int):wB 106 [.agg (fA x),.bp [.int .i64 id]] (.bool (decide (x.id=id))):=by
 refine EA (c:=QF) rfl rfl ?_;simp [QF,-J,-y6,-y5,y0,fA]
theorem uQ (t:QA) (id:Int) (hl:t.mems.length<=9223372036854775807):wB 65 [.agg (iA t),.int .i64 id] (.int .i64 (TB t.mems id)):=by
 refine EA (c:=fH) rfl rfl ?_;have h:=CZ 106 [.bp [.int .i64 id]] t.mems (fun x=>decide (x.id=id)) hl (fun _ _=>rfl) (fun x _=>emem1_ev x id) t.mn;simp only [wB] at h;unfold TB;simp [fH,-J,-y6,-y5,y0,iA,h]
theorem esym1_ev (x:LC) (id:Int):wB 110 [.agg (jA x),.bp [.int .i64 id]] (.bool (decide (x.id=id))):=by
 refine EA (c:=WF) rfl rfl ?_;simp [WF,-J,-y6,-y5,y0,jA]
theorem SS (t:QA) (id:Int) (hl:t.syms.length<=9223372036854775807):wB 70 [.agg (iA t),.int .i64 id] (.int .i64 (UB t.syms id)):=by
 refine EA (c:=gH) rfl rfl ?_;have h:=BZ 110 [.bp [.int .i64 id]] t.syms (fun x=>decide (x.id=id)) hl (fun _ _=>rfl) (fun x _=>esym1_ev x id) t.sn;simp only [wB] at h;unfold UB;simp [gH,-J,-y6,-y5,y0,iA,h]
theorem esame_ev (m m':fB) (hm:m.ok):wB 81 [.agg (fA m),.agg (fA m')] (.bool (m.same m')):=by
 have hs:=vequal_ev _ m.dflt m'.dflt (Nat.lt_succ_self _) hm.1;simp only [wB,WB] at hs;refine EA (c:=GD) rfl rfl ?_;unfold fB.same fA;by_cases h1:m.id=m'.id
 ·by_cases h2:m.name=m'.name
  ·by_cases h3:m.ty=m'.ty
   ·by_cases h4:m.crit=m'.crit
    ·by_cases h5:m.has=m'.has
     ·simp [GD,-J,iB,y0,h1,h2,h3,h4,h5,hs]
     ·simp [GD,-J,iB,y0,h1,h2,h3,h4,h5]
    ·simp [GD,-J,iB,y0,h1,h2,h3,h4]
   ·simp [GD,-J,iB,y0,h1,h2,h3]
  ·simp [GD,-J,iB,y0,h1,h2]
 ·simp [GD,-J,iB,y0,h1]
theorem M6 (m m':fB) (hm:m.ok):wB 45 [.agg (fA m),.agg (fA m')] (.bool (m.same m')):=by
 have h:=lV ⟨0,⟨#[]⟩,0,0,0,true,[],false,[m],0,0,false⟩ ⟨0,⟨#[]⟩,0,0,0,true,[],false,[m'],0,0,false⟩ ⟨by simp,by simp,fun x hx=>by simp at hx; subst hx; exact hm⟩;simp only [wB,iA,QA.same,MB] at h;refine EA (c:=UF) rfl rfl ?_;simp [fA] at h;simp [UF,-J,-y6,-y5,y0,fA,h]
section
section
variable {α:Type} (f:α->Int)
def CE (x:α):List α->List α
 | []=>[x]
 | y :: r=>if f y<=f x then y :: CE x r else x :: y :: r
def dH (z:Int):List α->Nat
 | []=>0
 | y :: r=>if f y<=z then dH z r + 1 else 0
def RE (l:List α):List α:=l.foldl (fun o x=>CE f x o) []
def iM (l:List α):Prop:=l.Pairwise fun a b=>f a<f b
def IY (l:List α):Prop:=l.Pairwise fun a b=>f a<=f b
variable {f}
theorem dX (z:Int):∀ l:List α,dH f z l<=l.length
 | []=>yf _
 | y :: r=>by
  unfold dH;split
  ·have:=dX z r; simp only [yA]; omega
  ·exact Nat.zero_le _
theorem WP (x:α):∀ l:List α,CE f x l=l.take (dH f (f x) l)++x :: l.drop (dH f (f x) l)
 | []=>rfl
 | y :: r=>by
  unfold CE dH;split
  ·rw [WP x r,List.take_succ_cons,List.drop_succ_cons,List.cons_append]
  ·rfl
theorem r7 {z:Int}:∀ {l:List α} {i:Nat},i<dH f z l->∃ y,l[i]?=some y/\f y<=z
 | [],i,h=>by simp [dH] at h
 | y :: r,i,h=>by
  unfold dH at h;split at h
  ·rename_i hy;cases i with
   | zero=>exact ⟨y,rfl,hy⟩
   | succ i =>
    obtain ⟨x,h1,h2⟩:=r7 (z:=z) (l:=r) (i:=i) (by omega);exact ⟨x,by simpa using h1,h2⟩
  ·omega
theorem plcK_at {z:Int}:∀ {l:List α},dH f z l<l.length->∃ y,l[dH f z l]?=some y/\z<f y
 | [],h=>by simp at h
 | y :: r,h=>by
  unfold dH at h ⊢;split at h
  ·rename_i hy;rw [if_pos hy];simpa using plcK_at (l:=r) (by simpa using h)
  ·rename_i hy;rw [if_neg hy];exact ⟨y,rfl,by omega⟩
theorem gQ {z:Int} {l:List α} {n:Nat} (h1:∀ i y,i<n->l[i]?=some y->f y<=z) (h2:n=l.length\/∃ y,l[n]?=some y/\z<f y) (hn:n<=l.length):dH f z l=n:=by
 rcases Nat.lt_trichotomy (dH f z l) n with h | h | h
 ·obtain ⟨y,hy,hz⟩:=plcK_at (f:=f) (z:=z) (l:=l) (by omega);have:=h1 _ y h hy;omega
 ·exact h
 ·obtain ⟨y,hy,hz⟩:=r7 h;rcases h2 with h2 | ⟨y',ar,hz'⟩
  ·subst h2;have:=dX (f:=f) z l;omega
  ·rw [hy] at ar; injection ar with ar; subst ar; omega
theorem tT {x z:α}:∀ {l:List α},z∈CE f x l ↔ z=x\/z∈l
 | []=>by simp [CE]
 | y :: r=>by
  unfold CE;split
  ·rw [yw,tT (l:=r),yw];constructor
   ·rintro (h | h | h)
    ·exact .inr (.inl h)
    ·exact .inl h
    ·exact .inr (.inr h)
   ·rintro (h | h | h)
    ·exact .inr (.inl h)
    ·exact .inl h
    ·exact .inr (.inr h)
  ·rw [yw]
theorem IJ (x:α):∀ l:List α,(CE f x l).length=l.length + 1
 | []=>rfl
 | y :: r=>by
  unfold CE;split
  ·simp [IJ x r]
  ·simp
theorem Q6 {x:α}:∀ {l:List α},(∀ y∈l,f y<=f x)->CE f x l=l++[x]
 | [],_=>rfl
 | y :: r,h=>by
  unfold CE;rw [if_pos (h y (yp ..)),Q6 fun z hz=>h z (yG _ hz)];rfl
theorem c7:∀ (l o:List α),iM f (o++l)->l.foldl (fun o x=>CE f x o) o=o++l
 | [],o,_=>by simp
 | x :: l,o,h=>by
  have h':iM f ((o++[x])++l):=by simpa using h
  rw [List.foldl_cons,Q6 (fun y hy=>by
   have:=(List.pairwise_append.1 h).2.2 y hy x (yp ..);omega),c7 l _ h']
  simp
theorem IZ {l:List α} (h:iM f l):RE f l=l:=c7 l [] h
theorem JT {l:List α} (x:α) (h:iM f l):RE f (l++[x])=CE f x l:=by
 unfold RE;rw [List.foldl_append,List.foldl_cons,List.foldl_nil];exact congrArg _ (IZ h)
theorem zY {x:α}:∀ {l:List α},IY f l->IY f (CE f x l)
 | [],_=>by simp [CE,IY]
 | y :: r,h=>by
  obtain ⟨h1,h2⟩:=List.pairwise_cons.1 h;unfold CE;split
  ·rename_i hy;refine List.pairwise_cons.2 ⟨fun z hz=>?_,zY h2⟩;rcases tT.1 hz with rfl | hz
   ·exact hy
   ·exact h1 z hz
  ·rename_i hy;refine List.pairwise_cons.2 ⟨fun z hz=>?_,h⟩;rcases yw.1 hz with rfl | hz
   ·omega
   ·have:=h1 z hz; omega
theorem lY {x:α}:∀ {l:List α},iM f l->(∀ y∈l,f y≠f x)->iM f (CE f x l)
 | [],_,_=>by simp [CE,iM]
 | y :: r,h,hn=>by
  obtain ⟨h1,h2⟩:=List.pairwise_cons.1 h;have hyx:=hn y (yp ..);unfold CE;split
  ·rename_i hy;refine List.pairwise_cons.2 ⟨fun z hz=>?_,lY h2 fun z hz=>hn z (yG _ hz)⟩;rcases tT.1 hz with rfl | hz
   ·omega
   ·exact h1 z hz
  ·rename_i hy;refine List.pairwise_cons.2 ⟨fun z hz=>?_,h⟩;rcases yw.1 hz with rfl | hz
   ·omega
   ·have:=h1 z hz; omega
theorem lU {x:α}:∀ {l:List α},iM f l->(∃ y∈l,f y=f x)->CE f x (l.filter fun y=>!decide (f y=f x))=l.map fun y=>if f y=f x then x else y
 | [],_,h=>by obtain ⟨y,hy,_⟩:=h; cases hy
 | y :: r,h,he=>by
  obtain ⟨h1,h2⟩:=List.pairwise_cons.1 h;by_cases hy:f y=f x
  ·have hr:∀ z∈r,¬ f z=f x:=fun z hz e=>by have:=h1 z hz; omega
   have e1:(r.filter fun y=>!decide (f y=f x))=r:=List.filter_eq_self.2 fun z hz=>by simp [hr z hz]
   have e2:(r.map fun y=>if f y=f x then x else y)=r:=by
    rw [yH (g:=fun z=>z) fun z hz=>if_neg (hr z hz)];exact List.map_id' r
   rw [List.filter_cons,yk,e1,e2,if_pos hy];simp only [hy,decide_true,Bool.not_true,yI,if_false];cases r with
   | nil=>rfl
   | cons z r =>
    have:=h1 z (yp ..);unfold CE;rw [if_neg (by omega)]
  ·obtain ⟨z,hz,hzx⟩:=he;have hz':z∈r:=by
    rcases yw.1 hz with rfl | h
    ·exact absurd hzx hy
    ·exact h
   have ba:=h1 z hz';rw [List.filter_cons,yk,if_neg hy];simp only [hy,decide_false,Bool.not_false,if_true];unfold CE;rw [if_pos (by omega),lU h2 ⟨z,hz',hzx⟩]
theorem KI {l:List α} (p:α->Bool) (h:iM f l):iM f (l.filter p):=h.filter p
theorem U9 {l:List α} {g:α->α} (hg:∀ x∈l,f (g x)=f x) (h:iM f l):iM f (l.map g):=by
 unfold iM;rw [List.pairwise_map];refine h.imp_of_mem fun {a b} ha hb og=>?_
 rw [hg a ha,hg b hb];exact og
theorem sS:∀ {l:List α} {i:Nat} {x:α},iM f l->l[i]?=some x->l.filter (fun y=>!decide (f y=f x))=l.take i++l.drop (i + 1)/\∀ z,(l.map fun y=>if f y=f x then z else y)=l.set i z
 | [],i,x,_,h=>by cases h
 | y :: r,i,x,h,hi=>by
  obtain ⟨h1,h2⟩:=List.pairwise_cons.1 h;cases i with
  | zero =>
   have:y=x:=by simpa using hi
   subst this;have hr:∀ z∈r,¬ f z=f y:=fun z hz e=>by have:=h1 z hz; omega
   have e1:(r.filter fun z=>!decide (f z=f y))=r:=List.filter_eq_self.2 fun z hz=>by simp [hr z hz]
   refine ⟨by rw [List.filter_cons]; simp [e1],fun z=>?_⟩;rw [yk,if_pos rfl,yH (g:=fun z=>z) fun z hz=>if_neg (hr z hz)];simp
  | succ i =>
   have bd:r[i]?=some x:=by simpa using hi
   have ba:=h1 x (yD bd);obtain ⟨g1,g2⟩:=sS h2 bd;refine ⟨by rw [List.filter_cons,if_pos (by simp; omega),g1]; simp,fun z=>?_⟩;rw [yk,if_neg (by omega),g2 z];simp
end
def QA.bare (t:QA):QA:={ t with sn:=false,mn:=false }
def aB (k:Int):Bool:=decide (k=5)||decide (k=6)
def GB (a k:Int):Bool :=
 if a=1\/a=2\/a=3 then aB k
 else if a=4\/a=5 then decide (k=4)
 else if a=6 then aB k||decide (k=4)
 else if a=7 then decide (k=2)||decide (k=3)||decide (k=7)||decide (k=8)
 else if a=8 then decide (k=4)||decide (k=6)
 else if a=9 then decide (k=7)||decide (k=8)||decide (k=9)
 else false
def MK (l:List fB) (id:Int):Bool:=l.any fun m=>decide (m.id=id)
def QP (l:List LC) (id:Int):Bool:=l.any fun m=>decide (m.id=id)
def mA (t:QA) (e:RB):Int × QA :=
 if GB e.kind t.kind=false then (1,t)
 else if e.kind=1 then (if MK t.mems e.mem.id then (5,t) else (0,{ t with mems:=CE fB.id e.mem t.mems }))
 else if e.kind=2 then (if MK t.mems e.id then (0,{ t with mems:=t.mems.filter fun m=>!decide (m.id=e.id) }) else (4,t))
 else if e.kind=3 then (if MK t.mems e.mem.id then (0,{ t with mems:=t.mems.map fun m=>if m.id=e.mem.id then e.mem else m }) else (4,t))
 else if e.kind=4 then (if QP t.syms e.sym.id then (0,{ t with syms:=t.syms.map fun m=>if m.id=e.sym.id then e.sym else m }) else (0,{ t with syms:=CE LC.id e.sym t.syms }))
 else if e.kind=5 then (if QP t.syms e.id then (0,{ t with syms:=t.syms.filter fun m=>!decide (m.id=e.id) }) else (4,t))
 else if e.kind=6 then (0,{ t with name:=e.name })
 else if e.kind=7 then (if t.kind=2 then (0,{ t with low:=e.low,high:=e.high }) else (0,{ t with max:=e.max }))
 else if e.kind=8 then (0,{ t with opn:=e.opn })
 else (0,{ t with elem:=e.elem,key:=if t.kind=8 then e.key else t.key })
def nC (B:List QA) (e:RB):Int × List QA :=
 if 0<=e.ty then (match B[e.ty.toNat]? with
  | some t=>if (mA t e).1=0 then (0,B.set e.ty.toNat (mA t e).2) else ((mA t e).1,B)
  | none=>(4,B)) else (4,B)
def dE:List QA->Nat->List RB->Nat × Int × List QA
 | B,i,[]=>(i,0,B)
 | B,i,e :: r=>if (nC B e).1=0 then dE (nC B e).2 (i + 1) r else (i,(nC B e).1,[])
def eP (t:QA):Prop:=iM fB.id t.mems/\iM LC.id t.syms
def UA (L:List QA):List QA:=L.map QA.bare
theorem B8 (t:QA) (e:RB):mA t.bare e=((mA t e).1,(mA t e).2.bare):=by
 cases t with
 | mk kind name low high max sn syms mn mems key elem opn =>
 unfold mA QA.bare;dsimp only;by_cases h0:GB e.kind kind=false
 ·rw [if_pos h0,if_pos h0]
 rw [if_neg h0,if_neg h0];by_cases h1:e.kind=1
 ·rw [if_pos h1,if_pos h1];by_cases g:MK mems e.mem.id=true <;> simp [g]
 rw [if_neg h1,if_neg h1];by_cases h1:e.kind=2
 ·rw [if_pos h1,if_pos h1];by_cases g:MK mems e.id=true <;> simp [g]
 rw [if_neg h1,if_neg h1];by_cases h1:e.kind=3
 ·rw [if_pos h1,if_pos h1];by_cases g:MK mems e.mem.id=true <;> simp [g]
 rw [if_neg h1,if_neg h1];by_cases h1:e.kind=4
 ·rw [if_pos h1,if_pos h1];by_cases g:QP syms e.sym.id=true <;> simp [g]
 rw [if_neg h1,if_neg h1];by_cases h1:e.kind=5
 ·rw [if_pos h1,if_pos h1];by_cases g:QP syms e.id=true <;> simp [g]
 rw [if_neg h1,if_neg h1];by_cases h1:e.kind=6
 ·rw [if_pos h1,if_pos h1]
 rw [if_neg h1,if_neg h1];by_cases h1:e.kind=7
 ·rw [if_pos h1,if_pos h1];by_cases g:kind=2 <;> simp [g]
 rw [if_neg h1,if_neg h1];by_cases h1:e.kind=8
 ·rw [if_pos h1,if_pos h1]
 rw [if_neg h1,if_neg h1]
theorem WX (a k:Int):GB a k=true->(a=1\/a=2\/a=3\/a=4\/a=5\/a=6\/a=7\/a=8\/a=9):=by
 unfold GB;intro h;by_cases h1:a=1\/a=2\/a=3
 ·omega
 by_cases h2:a=4\/a=5
 ·omega
 simp only [h1,h2,if_false] at h;split at h
 ·omega
 split at h
 ·omega
 split at h
 ·omega
 split at h
 ·omega
 cases h
theorem stepT_asc {t:QA} {e:RB} (h:eP t):eP (mA t e).2:=by
 obtain ⟨h1,h2⟩:=h;have hm:∀ {l:List fB} {i:Int},¬ MK l i=true->∀ y∈l,y.id≠i:=fun {l i} hn y hy he=>hn (List.any_eq_true.2 ⟨y,hy,decide_eq_true he⟩)
 have hs:∀ {l:List LC} {i:Int},¬ QP l i=true->∀ y∈l,y.id≠i:=fun {l i} hn y hy he=>hn (List.any_eq_true.2 ⟨y,hy,decide_eq_true he⟩)
 unfold mA;split
 ·exact ⟨h1,h2⟩
 split
 ·split
  ·exact ⟨h1,h2⟩
  ·rename_i hn; exact ⟨lY h1 (hm hn),h2⟩
 split
 ·split
  ·exact ⟨KI _ h1,h2⟩
  ·exact ⟨h1,h2⟩
 split
 ·split
  ·refine ⟨U9 (fun x _=>?_) h1,h2⟩;split
   ·rename_i e; exact e.symm
   ·rfl
  ·exact ⟨h1,h2⟩
 split
 ·split
  ·refine ⟨h1,U9 (fun x _=>?_) h2⟩;split
   ·rename_i e; exact e.symm
   ·rfl
  ·rename_i hn; exact ⟨h1,lY h2 (hs hn)⟩
 split
 ·split
  ·exact ⟨h1,KI _ h2⟩
  ·exact ⟨h1,h2⟩
 split
 ·exact ⟨h1,h2⟩
 split
 ·split <;> exact ⟨h1,h2⟩
 split
 ·exact ⟨h1,h2⟩
 ·exact ⟨h1,h2⟩
theorem stepB_asc {B:List QA} {e:RB} (h:∀ t∈B,eP t):∀ t∈(nC B e).2,eP t:=by
 unfold nC;split
 ·split
  ·rename_i t ht;split
   ·intro u hu;rcases List.mem_or_eq_of_mem_set hu with hu | rfl
    ·exact h u hu
    ·exact stepT_asc (h t (yD ht))
   ·exact h
  ·exact h
 ·exact h
theorem cV (B:List QA) (e:RB):(nC B e).2.length=B.length:=by
 unfold nC
 repeat' split
 all_goals simp
theorem OZ (B:List QA) (e:RB):nC (UA B) e=((nC B e).1,UA (nC B e).2):=by
 unfold nC UA;rw [yc];split
 ·cases B[e.ty.toNat]? with
  | none=>rfl
  | some t =>
   simp only [yt,B8];split
   ·rw [List.map_set]
   ·rfl
 ·rfl
theorem DD (L:List QA):EB (UA L)=EB L:=by
 have h1:∀ k,WN (UA L) k=WN L k:=fun k=>by
  unfold WN UA;rw [yc];cases L[k.toNat]? <;> rfl
 have h2:∀ t:QA,zD t.bare=zD t:=fun t=>by
  have e1:GO t.bare=GO t:=by unfold GO; rfl
  have e2:t.bare.left.same xD=t.left.same xD:=by
   unfold QA.left;simp only [show t.bare.kind=t.kind from rfl]
   repeat' split
   all_goals rfl
  unfold zD;rw [e1,e2];rfl
 have h3:∀ i (t:QA),EC (UA L) i t.bare=EC L i t:=fun i t=>by
  unfold EC;simp only [h1,h2];simp only [UA,y7];rw [<- List.map_take,y5];rfl
 have h4:∀ n i,dC (UA L) n i=dC L n i:=by
  intro n
  induction n with
  | zero=>intro i; rfl
  | succ n ih =>
   intro i;unfold dC;unfold UA;rw [yc];cases L[i]? with
   | none=>rfl
   | some t=>simp only [yt]; rw [show EC (L.map QA.bare) i t.bare=EC L i t from h3 i t]; rw [show dC (L.map QA.bare) n (i + 1)=dC L n (i + 1) from ih (i + 1)]
 unfold EB;rw [show (UA L).length=L.length from y7 _,h4]
end
def uU (n:Int) (s:ByteArray):RB:={ RB.zero with kind:=6,ty:=n,name:=s }
def tU (n a b c:Int):RB:={ RB.zero with kind:=7,ty:=n,low:=a,high:=b,max:=c }
def iU (n:Int) (b:Bool):RB:={ RB.zero with kind:=8,ty:=n,opn:=b }
def pU (n a b:Int):RB:={ RB.zero with kind:=9,ty:=n,key:=a,elem:=b }
def C5 (n i:Int):RB:={ RB.zero with kind:=2,ty:=n,id:=i }
def edMem (n:Int) (m:fB):RB:={ RB.zero with kind:=3,ty:=n,mem:=m }
def X5 (n:Int) (m:fB):RB:={ RB.zero with kind:=1,ty:=n,mem:=m }
def KX (n i:Int):RB:={ RB.zero with kind:=5,ty:=n,id:=i }
def qW (n:Int) (x:LC):RB:={ RB.zero with kind:=4,ty:=n,sym:=x }
def IL (n:Int) (q:List fB) (l:List fB):List RB:=l.flatMap fun m=>if TB q m.id<0 then [C5 n m.id] else []
def SM (n:Int) (q:List fB) (m:fB):List RB:=match q[(TB q m.id).toNat]? with
 | some m'=>if 0<=TB q m.id/\m'.same m=false then [edMem n m] else []
 | none=>[]
def WL (n:Int) (q:List fB) (l:List fB):List RB:=l.flatMap (SM n q)
def QL (n:Int) (q:List fB) (l:List fB):List RB:=l.flatMap fun m=>if TB q m.id<0 then [X5 n m] else []
def EL (n:Int) (q:List LC) (l:List LC):List RB:=l.flatMap fun m=>if UB q m.id<0 then [KX n m.id] else []
def sN (n:Int) (q:List LC) (m:LC):List RB:=match q[(UB q m.id).toNat]? with
 | some m'=>if 0<=UB q m.id/\m'.name≠m.name then [qW n m] else []
 | none=>[]
def PL (n:Int) (q:List LC) (l:List LC):List RB:=l.flatMap (sN n q)
def OL (n:Int) (q:List LC) (l:List LC):List RB:=l.flatMap fun m=>if UB q m.id<0 then [qW n m] else []
def tW (n:Int) (x y:QA):List RB :=
 (if x.name=y.name then [] else [uU n y.name])++((if x.low=y.low/\x.high=y.high/\x.max=y.max then [] else [tU n y.low y.high y.max])++((if x.opn=y.opn then [] else [iU n y.opn])++(if x.key=y.key/\x.elem=y.elem then [] else [pU n y.key y.elem])))
def AS (n:Int) (x y:QA):List RB:=tW n x y++(IL n y.mems x.mems++(WL n x.mems y.mems++(QL n x.mems y.mems++(EL n y.syms x.syms++(PL n x.syms y.syms++OL n x.syms y.syms)))))
theorem DE {α β:Type} (f:α->List β) {l:List α} {i:Nat} {x:α} (h:l[i]?=some x):(l.take (i + 1)).flatMap f=(l.take i).flatMap f++f x:=by
 rw [List.take_add_one,h];simp
def OutA (L:List RB) (v:rA):Prop:=(L=[]/\v=⟨.sl true [],.ex⟩)\/(L≠[]/\v.v=.sl false (L.map tC)/\∃ k,v.a=.own k 52)
structure AL (n:Int) (x y:QA) (L:List RB) (s:pA):Prop where
 e0:(s.env 0).v=.int .i64 n
 e4:(s.env 4).v=.ptr 4 1 0
 e5:(s.env 5).v=.ptr 5 1 0
 m4:s.mem 4 1=some ((iA x).map (⟨·,.no⟩))
 m5:s.mem 5 1=some ((iA y).map (⟨·,.no⟩))
 e7:OutA L (s.env 7)
 len:L.length<=1000
theorem bt_rem {rv:RV} {n:Int} {x y:QA} (hx:x.mems.length<=100) (hy:y.mems.length<=100) {L:List RB} (hL:L.length<=500) (s:pA) (h:AL n x y L s) (e8:(s.env 8).v=.int .i64 0) (k:Ex->pA->Option RV)
  (hk:∀ s',AL n x y (L++IL n y.mems x.mems) s'->k (.exit 0) s'=some rv):zF lA dA wD s k=some rv:=by
 refine IB x.mems.length (fun i s=>(s.env 8).v=.int .i64 i/\AL n x y (L++IL n y.mems (x.mems.take i)) s/\(L++IL n y.mems (x.mems.take i)).length<=L.length + i) (fun e s=>e=.exit 0/\AL n x y (L++IL n y.mems x.mems) s) (fun i hi s k h ih hk=>?_) _ _ ⟨e8,by simpa [IL] using h,by simp [IL]⟩ (fun e s h=>by obtain ⟨rfl,h⟩:=h; exact hk _ h);obtain ⟨e8,hI,hn⟩:=h;obtain ⟨env,mem,nx,obj,gh⟩:=s;obtain ⟨e0,e4,e5,m4,m5,e7,da⟩:=hI;dsimp only at e8 e0 e4 e5 m4 m5 e7;have M4:=m4;have M5:=m5;refine gA ?_;by_cases ba:i<x.mems.length
 ·have ea:(i:Int)<x.mems.length:=by omega
  have hw:=eB (i:=i);obtain ⟨q,hq⟩:∃ q,x.mems[i]?=some q:=⟨_,yg ba⟩;have g1:(x.mems.map fA)[i]?=some (fA q):=by rw [yc,hq]; rfl
  have FD:=DE (fun m=>if TB y.mems m.id<0 then [C5 n m.id] else []) hq;have ec:=EH y q.id (by omega);simp only [wB,iA,R8] at ec;simp only [iA] at m4 m5;have g2:(AV.int IntKind.i64 q.id)=(AV.int IntKind.i64 q.id):=rfl;simp only [fA] at g1;have wa:=ih ba;unfold IL at wa e7 hn da;rw [FD] at wa;generalize gg:L++(x.mems.take i).flatMap (fun m=>if TB y.mems m.id<0 then [C5 n m.id] else [])=L0 at *
  rw [<- yo,gg] at wa;have kb:(x.mems.map fA).length=x.mems.length:=y7 _;generalize fc:x.mems.map fA=ml at *
  have ga:RA 272 (L0.length + 1)=true:=by rw [sA]; omega
  have gb:=sC L0;have wb:(L0.map tC).length=L0.length:=y7 _;by_cases hc:TB y.mems q.id<0
  ·have jc:¬ 0<=TB y.mems q.id:=by omega
   rw [if_pos hc] at wa;rcases e7 with ⟨rfl,e7⟩ | ⟨h0,e7,kk,a7⟩
   ·have ga:RA 272 1=true:=by rw [sA]; omega
    simp [wD,-J,-y6,-y5,y0,e8,e0,e4,e5,e7,m4,m5,ea,hw,kb,g1,ec,hc,jc,ga];refine wa _ ⟨by simp,⟨by simp [e0],by simp [e4],by simp [e5],?_,?_,.inr ⟨by simp,?_,131,?_⟩,?_⟩,?_⟩
    ·simp [m4,iA,fc,KA]
    ·simp [m5,iA,KA]
    ·simp; rfl
    ·simp
    ·first | (simp; done) | (simp; omega)
    ·first | (simp; done) | (simp; omega)
   ·simp [wD,-J,-y6,-y5,y0,e8,e0,e4,e5,e7,a7,iB,m4,m5,ea,hw,kb,wb,g1,ec,hc,jc,ga,gb];refine wa _ ⟨by simp,⟨by simp [e0],by simp [e4],by simp [e5],?_,?_,.inr ⟨by simp,?_,131,?_⟩,?_⟩,?_⟩
    ·simp [m4,iA,fc,KA]
    ·simp [m5,iA,KA]
    ·simp; rfl
    ·simp
    ·first | (simp; done) | (simp; omega)
    ·first | (simp; done) | (simp; omega)
  ·have jc:0<=TB y.mems q.id:=by omega
   rw [if_neg hc,yz] at wa;simp [wD,-J,-y6,-y5,y0,e8,e0,e4,e5,m4,m5,ea,hw,kb,g1,ec,hc,jc];refine wa _ ⟨by simp,⟨by simp [e0],by simp [e4],by simp [e5],M4,M5,by simpa using e7,da⟩,by omega⟩
 ·have ea:¬ (i:Int)<x.mems.length:=by omega
  have:i=x.mems.length:=by omega
  subst this;rw [List.take_length] at e7 da;simp only [iA] at m4;simp [wD,-J,-y6,-y5,y0,e8,e4,m4,ea];exact hk _ _ ⟨rfl,by simp [e0],by simp [e4],by simp [e5],M4,M5,by simpa using e7,da⟩
section
variable {rv:RV} {n:Int} {x y:QA}
include rv n x y
theorem bt_add (hx:x.mems.length<=100) (hy:y.mems.length<=100) {L:List RB} (hL:L.length<=500) (s:pA) (h:AL n x y L s) (e_c:(s.env 14).v=.int .i64 0) (k:Ex->pA->Option RV)
  (hk:∀ s',AL n x y (L++QL n x.mems y.mems) s'->k (.exit 4) s'=some rv):zF lA dA qD s k=some rv:=by
 refine IB y.mems.length (fun i s=>(s.env 14).v=.int .i64 i/\AL n x y (L++QL n x.mems (y.mems.take i)) s/\(L++QL n x.mems (y.mems.take i)).length<=L.length + i) (fun e s=>e=.exit 4/\AL n x y (L++QL n x.mems y.mems) s) (fun i hi s k h ih hk=>?_) _ _ ⟨e_c,by simpa [QL] using h,by simp [QL]⟩ (fun e s h=>by obtain ⟨rfl,h⟩:=h; exact hk _ h);obtain ⟨e_c,hI,hn⟩:=h;obtain ⟨env,mem,nx,obj,gh⟩:=s;obtain ⟨e0,e4,e5,m4,m5,e7,da⟩:=hI;dsimp only at e_c e0 e4 e5 m4 m5 e7;have M4:=m4;have M5:=m5;refine gA ?_;by_cases ba:i<y.mems.length
 ·have ea:(i:Int)<y.mems.length:=by omega
  have hw:=eB (i:=i);obtain ⟨q,hq⟩:∃ q,y.mems[i]?=some q:=⟨_,yg ba⟩;have g1:(y.mems.map fA)[i]?=some (fA q):=by rw [yc,hq]; rfl
  have FD:=DE (fun m=>if TB x.mems m.id<0 then [X5 n m] else []) hq;have ec:=EH x q.id (by omega);simp only [wB,iA,R8] at ec;simp only [iA] at m4 m5;have g2:(AV.int IntKind.i64 q.id)=(AV.int IntKind.i64 q.id):=rfl;simp only [fA] at g1;have wa:=ih ba;unfold QL at wa e7 hn da;rw [FD] at wa;generalize gg:L++(y.mems.take i).flatMap (fun m=>if TB x.mems m.id<0 then [X5 n m] else [])=L0 at *
  rw [<- yo,gg] at wa;have kb:(y.mems.map fA).length=y.mems.length:=y7 _;generalize fc:y.mems.map fA=ml at *
  have ga:RA 272 (L0.length + 1)=true:=by rw [sA]; omega
  have gb:=sC L0;have wb:(L0.map tC).length=L0.length:=y7 _;by_cases hc:TB x.mems q.id<0
  ·have jc:¬ 0<=TB x.mems q.id:=by omega
   rw [if_pos hc] at wa;rcases e7 with ⟨rfl,e7⟩ | ⟨h0,e7,kk,a7⟩
   ·have ga:RA 272 1=true:=by rw [sA]; omega
    simp [qD,-J,-y6,-y5,y0,e_c,e0,e4,e5,e7,m4,m5,ea,hw,kb,g1,ec,hc,jc,ga];refine wa _ ⟨by simp,⟨by simp [e0],by simp [e4],by simp [e5],?_,?_,.inr ⟨by simp,?_,204,?_⟩,?_⟩,?_⟩
    ·simp [m4,iA,KA]
    ·simp [m5,iA,fc,KA]
    ·simp; rfl
    ·simp
    ·first | (simp; done) | (simp; omega)
    ·first | (simp; done) | (simp; omega)
   ·simp [qD,-J,-y6,-y5,y0,e_c,e0,e4,e5,e7,a7,iB,m4,m5,ea,hw,kb,wb,g1,ec,hc,jc,ga,gb];refine wa _ ⟨by simp,⟨by simp [e0],by simp [e4],by simp [e5],?_,?_,.inr ⟨by simp,?_,204,?_⟩,?_⟩,?_⟩
    ·simp [m4,iA,KA]
    ·simp [m5,iA,fc,KA]
    ·simp; rfl
    ·simp
    ·first | (simp; done) | (simp; omega)
    ·first | (simp; done) | (simp; omega)
  ·have jc:0<=TB x.mems q.id:=by omega
   rw [if_neg hc,yz] at wa;simp [qD,-J,-y6,-y5,y0,e_c,e0,e4,e5,m4,m5,ea,hw,kb,g1,ec,hc,jc];refine wa _ ⟨by simp,⟨by simp [e0],by simp [e4],by simp [e5],M4,M5,by simpa using e7,da⟩,by omega⟩
 ·have ea:¬ (i:Int)<y.mems.length:=by omega
  have:i=y.mems.length:=by omega
  subst this;rw [List.take_length] at e7 da;simp only [iA] at m5;simp [qD,-J,-y6,-y5,y0,e_c,e5,m5,ea];exact hk _ _ ⟨rfl,by simp [e0],by simp [e4],by simp [e5],M4,M5,by simpa using e7,da⟩
theorem bt_drp (hx:x.syms.length<=100) (hy:y.syms.length<=100) {L:List RB} (hL:L.length<=500) (s:pA) (h:AL n x y L s) (e_c:(s.env 17).v=.int .i64 0) (k:Ex->pA->Option RV)
  (hk:∀ s',AL n x y (L++EL n y.syms x.syms) s'->k (.exit 6) s'=some rv):zF lA dA MC s k=some rv:=by
 refine IB x.syms.length (fun i s=>(s.env 17).v=.int .i64 i/\AL n x y (L++EL n y.syms (x.syms.take i)) s/\(L++EL n y.syms (x.syms.take i)).length<=L.length + i) (fun e s=>e=.exit 6/\AL n x y (L++EL n y.syms x.syms) s) (fun i hi s k h ih hk=>?_) _ _ ⟨e_c,by simpa [EL] using h,by simp [EL]⟩ (fun e s h=>by obtain ⟨rfl,h⟩:=h; exact hk _ h);obtain ⟨e_c,hI,hn⟩:=h;obtain ⟨env,mem,nx,obj,gh⟩:=s;obtain ⟨e0,e4,e5,m4,m5,e7,da⟩:=hI;dsimp only at e_c e0 e4 e5 m4 m5 e7;have M4:=m4;have M5:=m5;refine gA ?_;by_cases ba:i<x.syms.length
 ·have ea:(i:Int)<x.syms.length:=by omega
  have hw:=eB (i:=i);obtain ⟨q,hq⟩:∃ q,x.syms[i]?=some q:=⟨_,yg ba⟩;have g1:(x.syms.map jA)[i]?=some (jA q):=by rw [yc,hq]; rfl
  have FD:=DE (fun m=>if UB y.syms m.id<0 then [KX n m.id] else []) hq;have ec:=RH y q.id (by omega);simp only [wB,iA,i9] at ec;simp only [iA] at m4 m5;have g2:(AV.int IntKind.i64 q.id)=(AV.int IntKind.i64 q.id):=rfl;simp only [jA] at g1;have wa:=ih ba;unfold EL at wa e7 hn da;rw [FD] at wa;generalize gg:L++(x.syms.take i).flatMap (fun m=>if UB y.syms m.id<0 then [KX n m.id] else [])=L0 at *
  rw [<- yo,gg] at wa;have kb:(x.syms.map jA).length=x.syms.length:=y7 _;generalize fc:x.syms.map jA=ml at *
  have ga:RA 272 (L0.length + 1)=true:=by rw [sA]; omega
  have gb:=sC L0;have wb:(L0.map tC).length=L0.length:=y7 _;by_cases hc:UB y.syms q.id<0
  ·have jc:¬ 0<=UB y.syms q.id:=by omega
   rw [if_pos hc] at wa;rcases e7 with ⟨rfl,e7⟩ | ⟨h0,e7,kk,a7⟩
   ·have ga:RA 272 1=true:=by rw [sA]; omega
    simp [MC,-J,-y6,-y5,y0,e_c,e0,e4,e5,e7,m4,m5,ea,hw,kb,g1,ec,hc,jc,ga];refine wa _ ⟨by simp,⟨by simp [e0],by simp [e4],by simp [e5],?_,?_,.inr ⟨by simp,?_,235,?_⟩,?_⟩,?_⟩
    ·simp [m4,iA,fc,KA]
    ·simp [m5,iA,KA]
    ·simp; rfl
    ·simp
    ·first | (simp; done) | (simp; omega)
    ·first | (simp; done) | (simp; omega)
   ·simp [MC,-J,-y6,-y5,y0,e_c,e0,e4,e5,e7,a7,iB,m4,m5,ea,hw,kb,wb,g1,ec,hc,jc,ga,gb];refine wa _ ⟨by simp,⟨by simp [e0],by simp [e4],by simp [e5],?_,?_,.inr ⟨by simp,?_,235,?_⟩,?_⟩,?_⟩
    ·simp [m4,iA,fc,KA]
    ·simp [m5,iA,KA]
    ·simp; rfl
    ·simp
    ·first | (simp; done) | (simp; omega)
    ·first | (simp; done) | (simp; omega)
  ·have jc:0<=UB y.syms q.id:=by omega
   rw [if_neg hc,yz] at wa;simp [MC,-J,-y6,-y5,y0,e_c,e0,e4,e5,m4,m5,ea,hw,kb,g1,ec,hc,jc];refine wa _ ⟨by simp,⟨by simp [e0],by simp [e4],by simp [e5],M4,M5,by simpa using e7,da⟩,by omega⟩
 ·have ea:¬ (i:Int)<x.syms.length:=by omega
  have:i=x.syms.length:=by omega
  subst this;rw [List.take_length] at e7 da;simp only [iA] at m4;simp [MC,-J,-y6,-y5,y0,e_c,e4,m4,ea];exact hk _ _ ⟨rfl,by simp [e0],by simp [e4],by simp [e5],M4,M5,by simpa using e7,da⟩
theorem bt_sya (hx:x.syms.length<=100) (hy:y.syms.length<=100) {L:List RB} (hL:L.length<=500) (s:pA) (h:AL n x y L s) (e_c:(s.env 23).v=.int .i64 0) (k:Ex->pA->Option RV)
  (hk:∀ s',AL n x y (L++OL n x.syms y.syms) s'->k (.exit 10) s'=some rv):zF lA dA NC s k=some rv:=by
 refine IB y.syms.length (fun i s=>(s.env 23).v=.int .i64 i/\AL n x y (L++OL n x.syms (y.syms.take i)) s/\(L++OL n x.syms (y.syms.take i)).length<=L.length + i) (fun e s=>e=.exit 10/\AL n x y (L++OL n x.syms y.syms) s) (fun i hi s k h ih hk=>?_) _ _ ⟨e_c,by simpa [OL] using h,by simp [OL]⟩ (fun e s h=>by obtain ⟨rfl,h⟩:=h; exact hk _ h);obtain ⟨e_c,hI,hn⟩:=h;obtain ⟨env,mem,nx,obj,gh⟩:=s;obtain ⟨e0,e4,e5,m4,m5,e7,da⟩:=hI;dsimp only at e_c e0 e4 e5 m4 m5 e7;have M4:=m4;have M5:=m5;refine gA ?_;by_cases ba:i<y.syms.length
 ·have ea:(i:Int)<y.syms.length:=by omega
  have hw:=eB (i:=i);obtain ⟨q,hq⟩:∃ q,y.syms[i]?=some q:=⟨_,yg ba⟩;have g1:(y.syms.map jA)[i]?=some (jA q):=by rw [yc,hq]; rfl
  have FD:=DE (fun m=>if UB x.syms m.id<0 then [qW n m] else []) hq;have ec:=RH x q.id (by omega);simp only [wB,iA,i9] at ec;simp only [iA] at m4 m5;have g2:(AV.int IntKind.i64 q.id)=(AV.int IntKind.i64 q.id):=rfl;simp only [jA] at g1;have wa:=ih ba;unfold OL at wa e7 hn da;rw [FD] at wa;generalize gg:L++(y.syms.take i).flatMap (fun m=>if UB x.syms m.id<0 then [qW n m] else [])=L0 at *
  rw [<- yo,gg] at wa;have kb:(y.syms.map jA).length=y.syms.length:=y7 _;generalize fc:y.syms.map jA=ml at *
  have ga:RA 272 (L0.length + 1)=true:=by rw [sA]; omega
  have gb:=sC L0;have wb:(L0.map tC).length=L0.length:=y7 _;by_cases hc:UB x.syms q.id<0
  ·have jc:¬ 0<=UB x.syms q.id:=by omega
   rw [if_pos hc] at wa;rcases e7 with ⟨rfl,e7⟩ | ⟨h0,e7,kk,a7⟩
   ·have ga:RA 272 1=true:=by rw [sA]; omega
    simp [NC,-J,-y6,-y5,y0,e_c,e0,e4,e5,e7,m4,m5,ea,hw,kb,g1,ec,hc,jc,ga];refine wa _ ⟨by simp,⟨by simp [e0],by simp [e4],by simp [e5],?_,?_,.inr ⟨by simp,?_,309,?_⟩,?_⟩,?_⟩
    ·simp [m4,iA,KA]
    ·simp [m5,iA,fc,KA]
    ·simp; rfl
    ·simp
    ·first | (simp; done) | (simp; omega)
    ·first | (simp; done) | (simp; omega)
   ·simp [NC,-J,-y6,-y5,y0,e_c,e0,e4,e5,e7,a7,iB,m4,m5,ea,hw,kb,wb,g1,ec,hc,jc,ga,gb];refine wa _ ⟨by simp,⟨by simp [e0],by simp [e4],by simp [e5],?_,?_,.inr ⟨by simp,?_,309,?_⟩,?_⟩,?_⟩
    ·simp [m4,iA,KA]
    ·simp [m5,iA,fc,KA]
    ·simp; rfl
    ·simp
    ·first | (simp; done) | (simp; omega)
    ·first | (simp; done) | (simp; omega)
  ·have jc:0<=UB x.syms q.id:=by omega
   rw [if_neg hc,yz] at wa;simp [NC,-J,-y6,-y5,y0,e_c,e0,e4,e5,m4,m5,ea,hw,kb,g1,ec,hc,jc];refine wa _ ⟨by simp,⟨by simp [e0],by simp [e4],by simp [e5],M4,M5,by simpa using e7,da⟩,by omega⟩
 ·have ea:¬ (i:Int)<y.syms.length:=by omega
  have:i=y.syms.length:=by omega
  subst this;rw [List.take_length] at e7 da;simp only [iA] at m5;simp [NC,-J,-y6,-y5,y0,e_c,e5,m5,ea];exact hk _ _ ⟨rfl,by simp [e0],by simp [e4],by simp [e5],M4,M5,by simpa using e7,da⟩
theorem bt_chg (hx:x.mems.length<=100) (hy:y.mems.length<=100) (sa:∀ m∈x.mems,m.ok) {L:List RB} (hL:L.length<=500) (s:pA) (h:AL n x y L s) (e_c:(s.env 11).v=.int .i64 0) (k:Ex->pA->Option RV)
  (hk:∀ s',AL n x y (L++WL n x.mems y.mems) s'->k (.exit 2) s'=some rv):zF lA dA cC s k=some rv:=by
 refine IB y.mems.length (fun i s=>(s.env 11).v=.int .i64 i/\AL n x y (L++WL n x.mems (y.mems.take i)) s/\(L++WL n x.mems (y.mems.take i)).length<=L.length + i) (fun e s=>e=.exit 2/\AL n x y (L++WL n x.mems y.mems) s) (fun i hi s k h ih hk=>?_) _ _ ⟨e_c,by simpa [WL] using h,by simp [WL]⟩ (fun e s h=>by obtain ⟨rfl,h⟩:=h; exact hk _ h);obtain ⟨e_c,hI,hn⟩:=h;obtain ⟨env,mem,nx,obj,gh⟩:=s;obtain ⟨e0,e4,e5,m4,m5,e7,da⟩:=hI;dsimp only at e_c e0 e4 e5 m4 m5 e7;have M4:=m4;have M5:=m5;refine gA ?_;by_cases ba:i<y.mems.length
 ·have ea:(i:Int)<y.mems.length:=by omega
  have hw:=eB (i:=i);obtain ⟨q,hq⟩:∃ q,y.mems[i]?=some q:=⟨_,yg ba⟩;have g1:(y.mems.map fA)[i]?=some (fA q):=by rw [yc,hq]; rfl
  have FD:=DE (SM n x.mems) hq;have ec:=EH x q.id (by omega);simp only [wB,iA,R8] at ec;simp only [iA] at m4 m5;simp only [fA] at g1;have wa:=ih ba;unfold WL at wa e7 hn da;rw [FD] at wa;generalize gg:L++(y.mems.take i).flatMap (SM n x.mems)=L0 at *
  rw [<- yo,gg] at wa;have kb:(y.mems.map fA).length=y.mems.length:=y7 _;have kf:(x.mems.map fA).length=x.mems.length:=y7 _;have ga:RA 272 (L0.length + 1)=true:=by rw [sA]; omega
  have gb:=sC L0;have wb:(L0.map tC).length=L0.length:=y7 _;by_cases hc:TB x.mems q.id<0
  ·have hf:(SM n x.mems) q=[]:=by
    unfold SM;split
    ·rw [if_neg (by omega)]
    ·rfl
   rw [hf,yz] at wa;have jc:¬ 0<=TB x.mems q.id:=by omega
   generalize fc:y.mems.map fA=ml at *
   generalize oe:x.mems.map fA=mlx at *
   simp [cC,-J,-y6,-y5,y0,e_c,e0,e4,e5,m4,m5,ea,hw,kb,kf,g1,ec,hc,jc];refine wa _ ⟨by simp,⟨by simp [e0],by simp [e4],by simp [e5],M4,M5,by simpa using e7,da⟩,by omega⟩
  ·have jc:0<=TB x.mems q.id:=by omega
   obtain ⟨q',ul,_⟩:=FH (fun m=>decide (m.id=q.id)) x.mems (fun e=>by unfold TB at jc; omega);have dg:x.mems[(TB x.mems q.id).toNat]?=some q':=ul;have zl:TB x.mems q.id<x.mems.length:=iX _ _;have g3:(x.mems.map fA)[(TB x.mems q.id).toNat]?=some (fA q'):=by rw [yc,dg]; rfl
   have z0:0<=TB x.mems q.id:=jc;have jo:max (TB x.mems q.id) 0=TB x.mems q.id:=by omega
   have lg:=M6 q' q (sa q' (yD dg));simp only [wB,fA] at lg;simp only [fA] at g3;by_cases ht:q'.same q=true
   ·have hf:(SM n x.mems) q=[]:=by
     unfold SM;rw [dg];dsimp only;rw [if_neg (by simp [ht])]
    rw [hf,yz] at wa;generalize fc:y.mems.map fA=ml at *
    generalize oe:x.mems.map fA=mlx at *
    generalize TB x.mems q.id=z at *
    rw [ht] at lg;simp [cC,-J,-y6,-y5,y0,e_c,e0,e4,e5,m4,m5,ea,hw,kb,kf,g1,g3,z0,zl,jo,ec,hc,jc,lg,ht];refine wa _ ⟨by simp,⟨by simp [e0],by simp [e4],by simp [e5],M4,M5,by simpa using e7,da⟩,by omega⟩
   ·have hf:(SM n x.mems) q=[edMem n q]:=by
     unfold SM;rw [dg];dsimp only;rw [if_pos ⟨jc,by simpa using ht⟩]
    rw [hf] at wa;generalize fc:y.mems.map fA=ml at *
    generalize oe:x.mems.map fA=mlx at *
    generalize TB x.mems q.id=z at *
    rw [Bool.eq_false_iff.2 ht] at lg;rcases e7 with ⟨rfl,e7⟩ | ⟨h0,e7,kk,a7⟩
    ·have ga:RA 272 1=true:=by rw [sA]; omega
     simp [cC,-J,-y6,-y5,y0,e_c,e0,e4,e5,e7,m4,m5,ea,hw,kb,kf,g1,g3,ec,hc,jc,z0,zl,jo,lg,ht,ga];refine wa _ ⟨by simp,⟨by simp [e0],by simp [e4],by simp [e5],?_,?_,.inr ⟨by simp,?_,174,?_⟩,?_⟩,?_⟩
     ·simp [m4,iA,oe,KA]
     ·simp [m5,iA,fc,KA]
     ·simp; rfl
     ·simp
     ·first | (simp; done) | (simp; omega)
     ·first | (simp; done) | (simp; omega)
    ·simp [cC,-J,-y6,-y5,y0,e_c,e0,e4,e5,e7,a7,iB,m4,m5,ea,hw,kb,kf,wb,g1,g3,ec,hc,jc,z0,zl,jo,lg,ht,ga,gb];refine wa _ ⟨by simp,⟨by simp [e0],by simp [e4],by simp [e5],?_,?_,.inr ⟨by simp,?_,174,?_⟩,?_⟩,?_⟩
     ·simp [m4,iA,oe,KA]
     ·simp [m5,iA,fc,KA]
     ·simp; rfl
     ·simp
     ·first | (simp; done) | (simp; omega)
     ·first | (simp; done) | (simp; omega)
 ·have ea:¬ (i:Int)<y.mems.length:=by omega
  have:i=y.mems.length:=by omega
  subst this;rw [List.take_length] at e7 da;simp only [iA] at m5;simp [cC,-J,-y6,-y5,y0,e_c,e5,m5,ea];exact hk _ _ ⟨rfl,by simp [e0],by simp [e4],by simp [e5],M4,M5,by simpa using e7,da⟩
theorem bt_syn (hx:x.syms.length<=100) (hy:y.syms.length<=100) {L:List RB} (hL:L.length<=500) (s:pA) (h:AL n x y L s) (e_c:(s.env 20).v=.int .i64 0) (k:Ex->pA->Option RV)
  (hk:∀ s',AL n x y (L++PL n x.syms y.syms) s'->k (.exit 8) s'=some rv):zF lA dA xC s k=some rv:=by
 refine IB y.syms.length (fun i s=>(s.env 20).v=.int .i64 i/\AL n x y (L++PL n x.syms (y.syms.take i)) s/\(L++PL n x.syms (y.syms.take i)).length<=L.length + i) (fun e s=>e=.exit 8/\AL n x y (L++PL n x.syms y.syms) s) (fun i hi s k h ih hk=>?_) _ _ ⟨e_c,by simpa [PL] using h,by simp [PL]⟩ (fun e s h=>by obtain ⟨rfl,h⟩:=h; exact hk _ h);obtain ⟨e_c,hI,hn⟩:=h;obtain ⟨env,mem,nx,obj,gh⟩:=s;obtain ⟨e0,e4,e5,m4,m5,e7,da⟩:=hI;dsimp only at e_c e0 e4 e5 m4 m5 e7;have M4:=m4;have M5:=m5;refine gA ?_;by_cases ba:i<y.syms.length
 ·have ea:(i:Int)<y.syms.length:=by omega
  have hw:=eB (i:=i);obtain ⟨q,hq⟩:∃ q,y.syms[i]?=some q:=⟨_,yg ba⟩;have g1:(y.syms.map jA)[i]?=some (jA q):=by rw [yc,hq]; rfl
  have FD:=DE (sN n x.syms) hq;have ec:=RH x q.id (by omega);simp only [wB,iA,i9] at ec;simp only [iA] at m4 m5;simp only [jA] at g1;have wa:=ih ba;unfold PL at wa e7 hn da;rw [FD] at wa;generalize gg:L++(y.syms.take i).flatMap (sN n x.syms)=L0 at *
  rw [<- yo,gg] at wa;have kb:(y.syms.map jA).length=y.syms.length:=y7 _;have kf:(x.syms.map jA).length=x.syms.length:=y7 _;have ga:RA 272 (L0.length + 1)=true:=by rw [sA]; omega
  have gb:=sC L0;have wb:(L0.map tC).length=L0.length:=y7 _;by_cases hc:UB x.syms q.id<0
  ·have hf:(sN n x.syms) q=[]:=by
    unfold sN;split
    ·rw [if_neg (by omega)]
    ·rfl
   rw [hf,yz] at wa;have jc:¬ 0<=UB x.syms q.id:=by omega
   generalize fc:y.syms.map jA=ml at *
   generalize oe:x.syms.map jA=mlx at *
   simp [xC,-J,-y6,-y5,y0,e_c,e0,e4,e5,m4,m5,ea,hw,kb,kf,g1,ec,hc,jc];refine wa _ ⟨by simp,⟨by simp [e0],by simp [e4],by simp [e5],M4,M5,by simpa using e7,da⟩,by omega⟩
  ·have jc:0<=UB x.syms q.id:=by omega
   obtain ⟨q',ul,_⟩:=FH (fun m=>decide (m.id=q.id)) x.syms (fun e=>by unfold UB at jc; omega);have dg:x.syms[(UB x.syms q.id).toNat]?=some q':=ul;have zl:UB x.syms q.id<x.syms.length:=iX _ _;have g3:(x.syms.map jA)[(UB x.syms q.id).toNat]?=some (jA q'):=by rw [yc,dg]; rfl
   have z0:0<=UB x.syms q.id:=jc;have jo:max (UB x.syms q.id) 0=UB x.syms q.id:=by omega
   simp only [jA] at g3;by_cases ht:q'.name=q.name
   ·have hf:(sN n x.syms) q=[]:=by
     unfold sN;rw [dg];dsimp only;rw [if_neg (by simp [ht])]
    rw [hf,yz] at wa;generalize fc:y.syms.map jA=ml at *
    generalize oe:x.syms.map jA=mlx at *
    generalize UB x.syms q.id=z at *
    skip
    simp [xC,-J,-y6,-y5,y0,e_c,e0,e4,e5,m4,m5,ea,hw,kb,kf,g1,g3,z0,zl,jo,ec,hc,jc,ht];refine wa _ ⟨by simp,⟨by simp [e0],by simp [e4],by simp [e5],M4,M5,by simpa using e7,da⟩,by omega⟩
   ·have hf:(sN n x.syms) q=[qW n q]:=by
     unfold sN;rw [dg];dsimp only;rw [if_pos ⟨jc,by simpa using ht⟩]
    rw [hf] at wa;generalize fc:y.syms.map jA=ml at *
    generalize oe:x.syms.map jA=mlx at *
    generalize UB x.syms q.id=z at *
    skip
    rcases e7 with ⟨rfl,e7⟩ | ⟨h0,e7,kk,a7⟩
    ·have ga:RA 272 1=true:=by rw [sA]; omega
     simp [xC,-J,-y6,-y5,y0,e_c,e0,e4,e5,e7,m4,m5,ea,hw,kb,kf,g1,g3,ec,hc,jc,z0,zl,jo,ht,ga];refine wa _ ⟨by simp,⟨by simp [e0],by simp [e4],by simp [e5],?_,?_,.inr ⟨by simp,?_,279,?_⟩,?_⟩,?_⟩
     ·simp [m4,iA,oe,KA]
     ·simp [m5,iA,fc,KA]
     ·simp; rfl
     ·simp
     ·first | (simp; done) | (simp; omega)
     ·first | (simp; done) | (simp; omega)
    ·simp [xC,-J,-y6,-y5,y0,e_c,e0,e4,e5,e7,a7,iB,m4,m5,ea,hw,kb,kf,wb,g1,g3,ec,hc,jc,z0,zl,jo,ht,ga,gb];refine wa _ ⟨by simp,⟨by simp [e0],by simp [e4],by simp [e5],?_,?_,.inr ⟨by simp,?_,279,?_⟩,?_⟩,?_⟩
     ·simp [m4,iA,oe,KA]
     ·simp [m5,iA,fc,KA]
     ·simp; rfl
     ·simp
     ·first | (simp; done) | (simp; omega)
     ·first | (simp; done) | (simp; omega)
 ·have ea:¬ (i:Int)<y.syms.length:=by omega
  have:i=y.syms.length:=by omega
  subst this;rw [List.take_length] at e7 da;simp only [iA] at m5;simp [xC,-J,-y6,-y5,y0,e_c,e5,m5,ea];exact hk _ _ ⟨rfl,by simp [e0],by simp [e4],by simp [e5],M4,M5,by simpa using e7,da⟩
end
def btS0:C:=.reg [⟨(.some 4),(.box 10 (.t 1)),.none⟩,⟨(.some 5),(.box 10 (.t 2)),.none⟩,⟨(.some 6),(.mv (.c (.sl .true []))),.none⟩]
def btS1:C:=.reg [⟨(.some 7),(.mv (.c (.sl .true []))),.none⟩]
def btS2:C:=.seq (.reg [⟨(.some 26),(.faddr 1 (.t 4)),.none⟩,⟨(.some 27),(.load .any .false 1 (.t 26)),.none⟩,⟨(.some 28),(.faddr 1 (.t 5)),.none⟩,⟨(.some 29),(.load .any .false 1 (.t 28)),.none⟩,⟨(.some 30),(.bin .neq .false (.t 27) (.t 29)),.none⟩]) (.cond (.t 30) (.reg [⟨(.some 31),(.mv (.t 7)),.none⟩,⟨(.some 32),(.mv (.t 0)),.none⟩,⟨(.some 33),(.faddr 1 (.t 5)),.none⟩,⟨(.some 34),(.load .any .false 1 (.t 33)),.none⟩,⟨(.some 35),(.build [(.int .i64 0),(.int .i64 0),(.int .i64 0),(.str (ByteArray.mk #[])),(.int .i64 0),(.str (ByteArray.mk #[])),(.int .i64 0),(.bool .false),(.bool .false),(.int .i64 0),(.bool .false),(.int .i64 0),(.str (ByteArray.mk #[])),(.int .i64 0),(.sl .true []),(.sl .true []),(.sl .true []),(.int .i64 0),(.str (ByteArray.mk #[])),(.int .i64 0),(.int .i64 0),(.int .i64 0),(.bool .false),(.int .i64 0),(.int .i64 0)] [(0,(1,(.c (.int .i64 6)))),(1,(1,(.t 32))),(3,(1,(.t 34)))]),.none⟩,⟨(.some 36),(.bsl [(.int .i64 0),(.int .i64 0),(.int .i64 0),(.str (ByteArray.mk #[])),(.int .i64 0),(.str (ByteArray.mk #[])),(.int .i64 0),(.bool .false),(.bool .false),(.int .i64 0),(.bool .false),(.int .i64 0),(.str (ByteArray.mk #[])),(.int .i64 0),(.sl .true []),(.sl .true []),(.sl .true []),(.int .i64 0),(.str (ByteArray.mk #[])),(.int .i64 0),(.int .i64 0),(.int .i64 0),(.bool .false),(.int .i64 0),(.int .i64 0)] 1 [(0,(.t 35))]),.none⟩,⟨(.some 37),(.app .any 52 25 272 (.t 31) (.t 36)),.none⟩,⟨(.some 7),(.mv (.t 37)),.none⟩]) .skip)
def C3:C:=.seq (.reg [⟨(.some 38),(.faddr 2 (.t 4)),.none⟩,⟨(.some 39),(.load .any .false 1 (.t 38)),.none⟩,⟨(.some 40),(.faddr 2 (.t 5)),.none⟩,⟨(.some 41),(.load .any .false 1 (.t 40)),.none⟩,⟨(.some 42),(.bin .neq .false (.t 39) (.t 41)),.none⟩,⟨(.some 43),(.mv (.t 42)),.none⟩,⟨(.some 44),(.faddr 3 (.t 4)),(.some (43,.false))⟩,⟨(.some 45),(.load .any .false 1 (.t 44)),(.some (43,.false))⟩,⟨(.some 46),(.faddr 3 (.t 5)),(.some (43,.false))⟩,⟨(.some 47),(.load .any .false 1 (.t 46)),(.some (43,.false))⟩,⟨(.some 48),(.bin .neq .false (.t 45) (.t 47)),(.some (43,.false))⟩,⟨(.some 49),(.pick (.t 43) (.c (.bool .true)) (.t 48)),.none⟩,⟨(.some 50),(.mv (.t 49)),.none⟩,⟨(.some 51),(.faddr 4 (.t 4)),(.some (50,.false))⟩,⟨(.some 52),(.load .any .false 1 (.t 51)),(.some (50,.false))⟩,⟨(.some 53),(.faddr 4 (.t 5)),(.some (50,.false))⟩,⟨(.some 54),(.load .any .false 1 (.t 53)),(.some (50,.false))⟩,⟨(.some 55),(.bin .neq .false (.t 52) (.t 54)),(.some (50,.false))⟩,⟨(.some 56),(.pick (.t 50) (.c (.bool .true)) (.t 55)),.none⟩]) (.cond (.t 56) (.reg [⟨(.some 57),(.mv (.t 7)),.none⟩,⟨(.some 58),(.mv (.t 0)),.none⟩,⟨(.some 59),(.faddr 2 (.t 5)),.none⟩,⟨(.some 60),(.load .any .false 1 (.t 59)),.none⟩,⟨(.some 61),(.faddr 3 (.t 5)),.none⟩,⟨(.some 62),(.load .any .false 1 (.t 61)),.none⟩,⟨(.some 63),(.faddr 4 (.t 5)),.none⟩,⟨(.some 64),(.load .any .false 1 (.t 63)),.none⟩,⟨(.some 65),(.build [(.int .i64 0),(.int .i64 0),(.int .i64 0),(.str (ByteArray.mk #[])),(.int .i64 0),(.str (ByteArray.mk #[])),(.int .i64 0),(.bool .false),(.bool .false),(.int .i64 0),(.bool .false),(.int .i64 0),(.str (ByteArray.mk #[])),(.int .i64 0),(.sl .true []),(.sl .true []),(.sl .true []),(.int .i64 0),(.str (ByteArray.mk #[])),(.int .i64 0),(.int .i64 0),(.int .i64 0),(.bool .false),(.int .i64 0),(.int .i64 0)] [(0,(1,(.c (.int .i64 7)))),(1,(1,(.t 58))),(19,(1,(.t 60))),(20,(1,(.t 62))),(21,(1,(.t 64)))]),.none⟩,⟨(.some 66),(.bsl [(.int .i64 0),(.int .i64 0),(.int .i64 0),(.str (ByteArray.mk #[])),(.int .i64 0),(.str (ByteArray.mk #[])),(.int .i64 0),(.bool .false),(.bool .false),(.int .i64 0),(.bool .false),(.int .i64 0),(.str (ByteArray.mk #[])),(.int .i64 0),(.sl .true []),(.sl .true []),(.sl .true []),(.int .i64 0),(.str (ByteArray.mk #[])),(.int .i64 0),(.int .i64 0),(.int .i64 0),(.bool .false),(.int .i64 0),(.int .i64 0)] 1 [(0,(.t 65))]),.none⟩,⟨(.some 67),(.app .any 52 25 272 (.t 57) (.t 66)),.none⟩,⟨(.some 7),(.mv (.t 67)),.none⟩]) .skip)
def btS4:C:=.seq (.reg [⟨(.some 68),(.faddr 9 (.t 4)),.none⟩,⟨(.some 69),(.load .any .false 1 (.t 68)),.none⟩,⟨(.some 70),(.faddr 9 (.t 5)),.none⟩,⟨(.some 71),(.load .any .false 1 (.t 70)),.none⟩,⟨(.some 72),(.bin .neq .true (.t 69) (.t 71)),.none⟩]) (.cond (.t 72) (.reg [⟨(.some 73),(.mv (.t 7)),.none⟩,⟨(.some 74),(.mv (.t 0)),.none⟩,⟨(.some 75),(.faddr 9 (.t 5)),.none⟩,⟨(.some 76),(.load .any .false 1 (.t 75)),.none⟩,⟨(.some 77),(.build [(.int .i64 0),(.int .i64 0),(.int .i64 0),(.str (ByteArray.mk #[])),(.int .i64 0),(.str (ByteArray.mk #[])),(.int .i64 0),(.bool .false),(.bool .false),(.int .i64 0),(.bool .false),(.int .i64 0),(.str (ByteArray.mk #[])),(.int .i64 0),(.sl .true []),(.sl .true []),(.sl .true []),(.int .i64 0),(.str (ByteArray.mk #[])),(.int .i64 0),(.int .i64 0),(.int .i64 0),(.bool .false),(.int .i64 0),(.int .i64 0)] [(0,(1,(.c (.int .i64 8)))),(1,(1,(.t 74))),(22,(1,(.t 76)))]),.none⟩,⟨(.some 78),(.bsl [(.int .i64 0),(.int .i64 0),(.int .i64 0),(.str (ByteArray.mk #[])),(.int .i64 0),(.str (ByteArray.mk #[])),(.int .i64 0),(.bool .false),(.bool .false),(.int .i64 0),(.bool .false),(.int .i64 0),(.str (ByteArray.mk #[])),(.int .i64 0),(.sl .true []),(.sl .true []),(.sl .true []),(.int .i64 0),(.str (ByteArray.mk #[])),(.int .i64 0),(.int .i64 0),(.int .i64 0),(.bool .false),(.int .i64 0),(.int .i64 0)] 1 [(0,(.t 77))]),.none⟩,⟨(.some 79),(.app .any 52 25 272 (.t 73) (.t 78)),.none⟩,⟨(.some 7),(.mv (.t 79)),.none⟩]) .skip)
def Z7:C:=.seq (.reg [⟨(.some 80),(.faddr 7 (.t 4)),.none⟩,⟨(.some 81),(.load .any .false 1 (.t 80)),.none⟩,⟨(.some 82),(.faddr 7 (.t 5)),.none⟩,⟨(.some 83),(.load .any .false 1 (.t 82)),.none⟩,⟨(.some 84),(.bin .neq .false (.t 81) (.t 83)),.none⟩,⟨(.some 85),(.mv (.t 84)),.none⟩,⟨(.some 86),(.faddr 8 (.t 4)),(.some (85,.false))⟩,⟨(.some 87),(.load .any .false 1 (.t 86)),(.some (85,.false))⟩,⟨(.some 88),(.faddr 8 (.t 5)),(.some (85,.false))⟩,⟨(.some 89),(.load .any .false 1 (.t 88)),(.some (85,.false))⟩,⟨(.some 90),(.bin .neq .false (.t 87) (.t 89)),(.some (85,.false))⟩,⟨(.some 91),(.pick (.t 85) (.c (.bool .true)) (.t 90)),.none⟩]) (.cond (.t 91) (.reg [⟨(.some 92),(.mv (.t 7)),.none⟩,⟨(.some 93),(.mv (.t 0)),.none⟩,⟨(.some 94),(.faddr 7 (.t 5)),.none⟩,⟨(.some 95),(.load .any .false 1 (.t 94)),.none⟩,⟨(.some 96),(.faddr 8 (.t 5)),.none⟩,⟨(.some 97),(.load .any .false 1 (.t 96)),.none⟩,⟨(.some 98),(.build [(.int .i64 0),(.int .i64 0),(.int .i64 0),(.str (ByteArray.mk #[])),(.int .i64 0),(.str (ByteArray.mk #[])),(.int .i64 0),(.bool .false),(.bool .false),(.int .i64 0),(.bool .false),(.int .i64 0),(.str (ByteArray.mk #[])),(.int .i64 0),(.sl .true []),(.sl .true []),(.sl .true []),(.int .i64 0),(.str (ByteArray.mk #[])),(.int .i64 0),(.int .i64 0),(.int .i64 0),(.bool .false),(.int .i64 0),(.int .i64 0)] [(0,(1,(.c (.int .i64 9)))),(1,(1,(.t 93))),(23,(1,(.t 95))),(24,(1,(.t 97)))]),.none⟩,⟨(.some 99),(.bsl [(.int .i64 0),(.int .i64 0),(.int .i64 0),(.str (ByteArray.mk #[])),(.int .i64 0),(.str (ByteArray.mk #[])),(.int .i64 0),(.bool .false),(.bool .false),(.int .i64 0),(.bool .false),(.int .i64 0),(.str (ByteArray.mk #[])),(.int .i64 0),(.sl .true []),(.sl .true []),(.sl .true []),(.int .i64 0),(.str (ByteArray.mk #[])),(.int .i64 0),(.int .i64 0),(.int .i64 0),(.bool .false),(.int .i64 0),(.int .i64 0)] 1 [(0,(.t 98))]),.none⟩,⟨(.some 100),(.app .any 52 25 272 (.t 92) (.t 99)),.none⟩,⟨(.some 7),(.mv (.t 100)),.none⟩]) .skip)
def btS6:C:=.seq (.reg [⟨(.some 8),(.mv (.c (.int .i64 0))),.none⟩]) (.block 0 (.loop wD))
def btS7:C:=.seq (.reg [⟨(.some 11),(.mv (.c (.int .i64 0))),.none⟩]) (.block 2 (.loop cC))
def btS8:C:=.seq (.reg [⟨(.some 14),(.mv (.c (.int .i64 0))),.none⟩]) (.block 4 (.loop qD))
def btS9:C:=.seq (.reg [⟨(.some 17),(.mv (.c (.int .i64 0))),.none⟩]) (.block 6 (.loop MC))
def btS10:C:=.seq (.reg [⟨(.some 20),(.mv (.c (.int .i64 0))),.none⟩]) (.block 8 (.loop xC))
def btS11:C:=.seq (.reg [⟨(.some 23),(.mv (.c (.int .i64 0))),.none⟩]) (.block 10 (.loop NC))
def btS12:C:=.reg [⟨(.some 310),(.mv (.t 7)),.none⟩,⟨(.some 6),(.mv (.t 310)),.none⟩]
def btS13:C:=.ret
theorem btS_code:SF.code=.seq btS0 (.seq btS1 (.seq btS2 (.seq C3 (.seq btS4 (.seq Z7 (.seq btS6 (.seq btS7 (.seq btS8 (.seq btS9 (.seq btS10 (.seq btS11 (.seq btS12 btS13)))))))))))):=rfl
section
variable {rv:RV} {n:Int} {x y:QA} {L:List RB} (hL:L.length<=500) (s:pA) (h:AL n x y L s) (k:Ex->pA->Option RV)
include rv n x y L hL s h k
theorem bt_Name
  (hk:∀ s',AL n x y (L++if x.name=y.name then [] else [uU n y.name]) s'->k .nrm s'=some rv):btS2.run (rD lA dA) (IF lA dA) s k=some rv:=by
 obtain ⟨env,mem,nx,obj,gh⟩:=s;obtain ⟨e0,e4,e5,m4,m5,e7,da⟩:=h;dsimp only at e0 e4 e5 m4 m5 e7;have M4:=m4;have M5:=m5;simp only [iA] at m4 m5;have ga:RA 272 (L.length + 1)=true:=by rw [sA]; omega
 have gb:=sC L;have wb:(L.map tC).length=L.length:=y7 _;by_cases hc:x.name=y.name
 ·rw [if_pos hc,yz] at hk;have c0:=hc;simp [btS2,-J,-y6,-y5,y0,e0,e4,e5,m4,m5,c0];exact hk _ ⟨by simp [e0],by simp [e4],by simp [e5],M4,M5,by simpa using e7,da⟩
 ·rw [if_neg hc] at hk;have c0:=hc;rcases e7 with ⟨rfl,e7⟩ | ⟨h0,e7,kk,a7⟩
  ·have ga:RA 272 1=true:=by rw [sA]; omega
   simp [btS2,-J,-y6,-y5,y0,e0,e4,e5,e7,m4,m5,c0,ga];refine hk _ ⟨by simp [e0],by simp [e4],by simp [e5],?_,?_,.inr ⟨by simp,?_,37,?_⟩,?_⟩
   ·simp [m4,iA,KA]
   ·simp [m5,iA,KA]
   ·simp; rfl
   ·simp
   ·first | (simp; done) | (simp; omega)
  ·simp [btS2,-J,-y6,-y5,y0,e0,e4,e5,e7,a7,iB,m4,m5,wb,c0,ga,gb];refine hk _ ⟨by simp [e0],by simp [e4],by simp [e5],?_,?_,.inr ⟨by simp,?_,37,?_⟩,?_⟩
   ·simp [m4,iA,KA]
   ·simp [m5,iA,KA]
   ·simp; rfl
   ·simp
   ·first | (simp; done) | (simp; omega)
theorem bt_Bnds
  (hk:∀ s',AL n x y (L++if x.low=y.low/\x.high=y.high/\x.max=y.max then [] else [tU n y.low y.high y.max]) s'->k .nrm s'=some rv):C3.run (rD lA dA) (IF lA dA) s k=some rv:=by
 obtain ⟨env,mem,nx,obj,gh⟩:=s;obtain ⟨e0,e4,e5,m4,m5,e7,da⟩:=h;dsimp only at e0 e4 e5 m4 m5 e7;have M4:=m4;have M5:=m5;simp only [iA] at m4 m5;have ga:RA 272 (L.length + 1)=true:=by rw [sA]; omega
 have gb:=sC L;have wb:(L.map tC).length=L.length:=y7 _;by_cases hc:x.low=y.low/\x.high=y.high/\x.max=y.max
 ·rw [if_pos hc,yz] at hk;obtain ⟨c0,c1,c2⟩:=hc;simp [C3,-J,-y6,-y5,y0,e0,e4,e5,m4,m5,c0,c1,c2];exact hk _ ⟨by simp [e0],by simp [e4],by simp [e5],M4,M5,by simpa using e7,da⟩
 ·rw [if_neg hc] at hk;by_cases c0:x.low=y.low
  ·skip
   by_cases c1:x.high=y.high
   ·skip
    have c2:¬ x.max=y.max:=fun e=>hc ⟨c0,c1,e⟩
    rcases e7 with ⟨rfl,e7⟩ | ⟨h0,e7,kk,a7⟩
    ·have ga:RA 272 1=true:=by rw [sA]; omega
     simp [C3,-J,-y6,-y5,y0,e0,e4,e5,e7,m4,m5,c0,c1,c2,ga];refine hk _ ⟨by simp [e0],by simp [e4],by simp [e5],?_,?_,.inr ⟨by simp,?_,67,?_⟩,?_⟩
     ·simp [m4,iA,KA]
     ·simp [m5,iA,KA]
     ·simp; rfl
     ·simp
     ·first | (simp; done) | (simp; omega)
    ·simp [C3,-J,-y6,-y5,y0,e0,e4,e5,e7,a7,iB,m4,m5,wb,c0,c1,c2,ga,gb];refine hk _ ⟨by simp [e0],by simp [e4],by simp [e5],?_,?_,.inr ⟨by simp,?_,67,?_⟩,?_⟩
     ·simp [m4,iA,KA]
     ·simp [m5,iA,KA]
     ·simp; rfl
     ·simp
     ·first | (simp; done) | (simp; omega)
   ·skip
    rcases e7 with ⟨rfl,e7⟩ | ⟨h0,e7,kk,a7⟩
    ·have ga:RA 272 1=true:=by rw [sA]; omega
     simp [C3,-J,-y6,-y5,y0,e0,e4,e5,e7,m4,m5,c0,c1,ga];refine hk _ ⟨by simp [e0],by simp [e4],by simp [e5],?_,?_,.inr ⟨by simp,?_,67,?_⟩,?_⟩
     ·simp [m4,iA,KA]
     ·simp [m5,iA,KA]
     ·simp; rfl
     ·simp
     ·first | (simp; done) | (simp; omega)
    ·simp [C3,-J,-y6,-y5,y0,e0,e4,e5,e7,a7,iB,m4,m5,wb,c0,c1,ga,gb];refine hk _ ⟨by simp [e0],by simp [e4],by simp [e5],?_,?_,.inr ⟨by simp,?_,67,?_⟩,?_⟩
     ·simp [m4,iA,KA]
     ·simp [m5,iA,KA]
     ·simp; rfl
     ·simp
     ·first | (simp; done) | (simp; omega)
  ·skip
   rcases e7 with ⟨rfl,e7⟩ | ⟨h0,e7,kk,a7⟩
   ·have ga:RA 272 1=true:=by rw [sA]; omega
    simp [C3,-J,-y6,-y5,y0,e0,e4,e5,e7,m4,m5,c0,ga];refine hk _ ⟨by simp [e0],by simp [e4],by simp [e5],?_,?_,.inr ⟨by simp,?_,67,?_⟩,?_⟩
    ·simp [m4,iA,KA]
    ·simp [m5,iA,KA]
    ·simp; rfl
    ·simp
    ·first | (simp; done) | (simp; omega)
   ·simp [C3,-J,-y6,-y5,y0,e0,e4,e5,e7,a7,iB,m4,m5,wb,c0,ga,gb];refine hk _ ⟨by simp [e0],by simp [e4],by simp [e5],?_,?_,.inr ⟨by simp,?_,67,?_⟩,?_⟩
    ·simp [m4,iA,KA]
    ·simp [m5,iA,KA]
    ·simp; rfl
    ·simp
    ·first | (simp; done) | (simp; omega)
theorem bt_Open
  (hk:∀ s',AL n x y (L++if x.opn=y.opn then [] else [iU n y.opn]) s'->k .nrm s'=some rv):btS4.run (rD lA dA) (IF lA dA) s k=some rv:=by
 obtain ⟨env,mem,nx,obj,gh⟩:=s;obtain ⟨e0,e4,e5,m4,m5,e7,da⟩:=h;dsimp only at e0 e4 e5 m4 m5 e7;have M4:=m4;have M5:=m5;simp only [iA] at m4 m5;have ga:RA 272 (L.length + 1)=true:=by rw [sA]; omega
 have gb:=sC L;have wb:(L.map tC).length=L.length:=y7 _;by_cases hc:x.opn=y.opn
 ·rw [if_pos hc,yz] at hk;have c0:=hc;simp [btS4,-J,-y6,-y5,y0,e0,e4,e5,m4,m5,c0];exact hk _ ⟨by simp [e0],by simp [e4],by simp [e5],M4,M5,by simpa using e7,da⟩
 ·rw [if_neg hc] at hk;cases hb:x.opn <;> cases ix:y.opn <;> rw [hb] at m4 hc <;> rw [ix] at m5 hc hk
  all_goals first | exact absurd rfl hc | skip
  all_goals
   rcases e7 with ⟨rfl,e7⟩ | ⟨h0,e7,kk,a7⟩
   ·have ga:RA 272 1=true:=by rw [sA]; omega
    simp [btS4,-J,-y6,-y5,y0,e0,e4,e5,e7,m4,m5,hc,ga];refine hk _ ⟨by simp [e0],by simp [e4],by simp [e5],?_,?_,.inr ⟨by simp,?_,79,?_⟩,?_⟩
    ·simp [m4,hb,iA,KA]
    ·simp [m5,ix,iA,KA]
    ·simp; rfl
    ·simp
    ·first | (simp; done) | (simp; omega)
   ·simp [btS4,-J,-y6,-y5,y0,e0,e4,e5,e7,a7,iB,m4,m5,wb,hc,ga,gb];refine hk _ ⟨by simp [e0],by simp [e4],by simp [e5],?_,?_,.inr ⟨by simp,?_,79,?_⟩,?_⟩
    ·simp [m4,hb,iA,KA]
    ·simp [m5,ix,iA,KA]
    ·simp; rfl
    ·simp
    ·first | (simp; done) | (simp; omega)
theorem bt_Uses
  (hk:∀ s',AL n x y (L++if x.key=y.key/\x.elem=y.elem then [] else [pU n y.key y.elem]) s'->k .nrm s'=some rv):Z7.run (rD lA dA) (IF lA dA) s k=some rv:=by
 obtain ⟨env,mem,nx,obj,gh⟩:=s;obtain ⟨e0,e4,e5,m4,m5,e7,da⟩:=h;dsimp only at e0 e4 e5 m4 m5 e7;have M4:=m4;have M5:=m5;simp only [iA] at m4 m5;have ga:RA 272 (L.length + 1)=true:=by rw [sA]; omega
 have gb:=sC L;have wb:(L.map tC).length=L.length:=y7 _;by_cases hc:x.key=y.key/\x.elem=y.elem
 ·rw [if_pos hc,yz] at hk;obtain ⟨c0,c1⟩:=hc;simp [Z7,-J,-y6,-y5,y0,e0,e4,e5,m4,m5,c0,c1];exact hk _ ⟨by simp [e0],by simp [e4],by simp [e5],M4,M5,by simpa using e7,da⟩
 ·rw [if_neg hc] at hk;by_cases c0:x.key=y.key
  ·skip
   have c1:¬ x.elem=y.elem:=fun e=>hc ⟨c0,e⟩
   rcases e7 with ⟨rfl,e7⟩ | ⟨h0,e7,kk,a7⟩
   ·have ga:RA 272 1=true:=by rw [sA]; omega
    simp [Z7,-J,-y6,-y5,y0,e0,e4,e5,e7,m4,m5,c0,c1,ga];refine hk _ ⟨by simp [e0],by simp [e4],by simp [e5],?_,?_,.inr ⟨by simp,?_,100,?_⟩,?_⟩
    ·simp [m4,iA,KA]
    ·simp [m5,iA,KA]
    ·simp; rfl
    ·simp
    ·first | (simp; done) | (simp; omega)
   ·simp [Z7,-J,-y6,-y5,y0,e0,e4,e5,e7,a7,iB,m4,m5,wb,c0,c1,ga,gb];refine hk _ ⟨by simp [e0],by simp [e4],by simp [e5],?_,?_,.inr ⟨by simp,?_,100,?_⟩,?_⟩
    ·simp [m4,iA,KA]
    ·simp [m5,iA,KA]
    ·simp; rfl
    ·simp
    ·first | (simp; done) | (simp; omega)
  ·skip
   rcases e7 with ⟨rfl,e7⟩ | ⟨h0,e7,kk,a7⟩
   ·have ga:RA 272 1=true:=by rw [sA]; omega
    simp [Z7,-J,-y6,-y5,y0,e0,e4,e5,e7,m4,m5,c0,ga];refine hk _ ⟨by simp [e0],by simp [e4],by simp [e5],?_,?_,.inr ⟨by simp,?_,100,?_⟩,?_⟩
    ·simp [m4,iA,KA]
    ·simp [m5,iA,KA]
    ·simp; rfl
    ·simp
    ·first | (simp; done) | (simp; omega)
   ·simp [Z7,-J,-y6,-y5,y0,e0,e4,e5,e7,a7,iB,m4,m5,wb,c0,ga,gb];refine hk _ ⟨by simp [e0],by simp [e4],by simp [e5],?_,?_,.inr ⟨by simp,?_,100,?_⟩,?_⟩
    ·simp [m4,iA,KA]
    ·simp [m5,iA,KA]
    ·simp; rfl
    ·simp
    ·first | (simp; done) | (simp; omega)
end
section
variable {rv:RV} {n:Int} {x y:QA} (hx:x.mems.length<=100) (hy:y.mems.length<=100)
include rv n x y hx hy
theorem btl_rem {L:List RB} (hL:L.length<=500) (s:pA) (h:AL n x y L s) (k:Ex->pA->Option RV)
  (hk:∀ s',AL n x y (L++IL n y.mems x.mems) s'->k .nrm s'=some rv):btS6.run (rD lA dA) (IF lA dA) s k=some rv:=by
 obtain ⟨env,mem,nx,obj,gh⟩:=s;obtain ⟨e0,e4,e5,m4,m5,e7,da⟩:=h;dsimp only at e0 e4 e5 m4 m5 e7;simp [btS6,-J,-y6,-y5,y0];refine bt_rem (n:=n) (x:=x) (y:=y) (L:=L) hx hy hL _ ⟨by simp [e0],by simp [e4],by simp [e5],m4,m5,by simpa using e7,da⟩ (by simp) _ (fun s' h'=>?_);simp [-J,-y6,-y5,y0];exact hk s' h'
theorem btl_chg (sa:∀ m∈x.mems,m.ok) {L:List RB} (hL:L.length<=500) (s:pA) (h:AL n x y L s) (k:Ex->pA->Option RV)
  (hk:∀ s',AL n x y (L++WL n x.mems y.mems) s'->k .nrm s'=some rv):btS7.run (rD lA dA) (IF lA dA) s k=some rv:=by
 obtain ⟨env,mem,nx,obj,gh⟩:=s;obtain ⟨e0,e4,e5,m4,m5,e7,da⟩:=h;dsimp only at e0 e4 e5 m4 m5 e7;simp [btS7,-J,-y6,-y5,y0];refine bt_chg (n:=n) (x:=x) (y:=y) (L:=L) hx hy sa hL _ ⟨by simp [e0],by simp [e4],by simp [e5],m4,m5,by simpa using e7,da⟩ (by simp) _ (fun s' h'=>?_);simp [-J,-y6,-y5,y0];exact hk s' h'
theorem btl_add {L:List RB} (hL:L.length<=500) (s:pA) (h:AL n x y L s) (k:Ex->pA->Option RV)
  (hk:∀ s',AL n x y (L++QL n x.mems y.mems) s'->k .nrm s'=some rv):btS8.run (rD lA dA) (IF lA dA) s k=some rv:=by
 obtain ⟨env,mem,nx,obj,gh⟩:=s;obtain ⟨e0,e4,e5,m4,m5,e7,da⟩:=h;dsimp only at e0 e4 e5 m4 m5 e7;simp [btS8,-J,-y6,-y5,y0];refine bt_add (n:=n) (x:=x) (y:=y) (L:=L) hx hy hL _ ⟨by simp [e0],by simp [e4],by simp [e5],m4,m5,by simpa using e7,da⟩ (by simp) _ (fun s' h'=>?_);simp [-J,-y6,-y5,y0];exact hk s' h'
end
section
variable {rv:RV} {n:Int} {x y:QA} (hx:x.syms.length<=100) (hy:y.syms.length<=100) {L:List RB} (hL:L.length<=500) (s:pA) (h:AL n x y L s) (k:Ex->pA->Option RV)
include rv n x y hx hy L hL s h k
theorem btl_drp
  (hk:∀ s',AL n x y (L++EL n y.syms x.syms) s'->k .nrm s'=some rv):btS9.run (rD lA dA) (IF lA dA) s k=some rv:=by
 obtain ⟨env,mem,nx,obj,gh⟩:=s;obtain ⟨e0,e4,e5,m4,m5,e7,da⟩:=h;dsimp only at e0 e4 e5 m4 m5 e7;simp [btS9,-J,-y6,-y5,y0];refine bt_drp (n:=n) (x:=x) (y:=y) (L:=L) hx hy hL _ ⟨by simp [e0],by simp [e4],by simp [e5],m4,m5,by simpa using e7,da⟩ (by simp) _ (fun s' h'=>?_);simp [-J,-y6,-y5,y0];exact hk s' h'
theorem btl_syn
  (hk:∀ s',AL n x y (L++PL n x.syms y.syms) s'->k .nrm s'=some rv):btS10.run (rD lA dA) (IF lA dA) s k=some rv:=by
 obtain ⟨env,mem,nx,obj,gh⟩:=s;obtain ⟨e0,e4,e5,m4,m5,e7,da⟩:=h;dsimp only at e0 e4 e5 m4 m5 e7;simp [btS10,-J,-y6,-y5,y0];refine bt_syn (n:=n) (x:=x) (y:=y) (L:=L) hx hy hL _ ⟨by simp [e0],by simp [e4],by simp [e5],m4,m5,by simpa using e7,da⟩ (by simp) _ (fun s' h'=>?_);simp [-J,-y6,-y5,y0];exact hk s' h'
theorem btl_sya
  (hk:∀ s',AL n x y (L++OL n x.syms y.syms) s'->k .nrm s'=some rv):btS11.run (rD lA dA) (IF lA dA) s k=some rv:=by
 obtain ⟨env,mem,nx,obj,gh⟩:=s;obtain ⟨e0,e4,e5,m4,m5,e7,da⟩:=h;dsimp only at e0 e4 e5 m4 m5 e7;simp [btS11,-J,-y6,-y5,y0];refine bt_sya (n:=n) (x:=x) (y:=y) (L:=L) hx hy hL _ ⟨by simp [e0],by simp [e4],by simp [e5],m4,m5,by simpa using e7,da⟩ (by simp) _ (fun s' h'=>?_);simp [-J,-y6,-y5,y0];exact hk s' h'
end
theorem QR {α β:Type} (f:α->List β) (hf:∀ x,(f x).length<=1):∀ l:List α,(l.flatMap f).length<=l.length
 | []=>by simp
 | x :: l=>by
  rw [List.flatMap_cons,yb,yA];have:=hf x;have:=QR f hf l;omega
theorem xZ (n:Int) (q l:List fB):(IL n q l).length<=l.length:=QR _ (fun x=>by split <;> simp) l
theorem SX (n:Int) (q l:List fB):(WL n q l).length<=l.length:=QR _ (fun x=>by unfold SM; split; split <;> simp; simp) l
theorem mX (n:Int) (q l:List fB):(QL n q l).length<=l.length:=QR _ (fun x=>by split <;> simp) l
theorem HX (n:Int) (q l:List LC):(EL n q l).length<=l.length:=QR _ (fun x=>by split <;> simp) l
theorem SZ (n:Int) (q l:List LC):(PL n q l).length<=l.length:=QR _ (fun x=>by unfold sN; split; split <;> simp; simp) l
theorem syaL_len (n:Int) (q l:List LC):(OL n q l).length<=l.length:=QR _ (fun x=>by split <;> simp) l
theorem JJ {β:Type} (c:Prop) [Decidable c] (e:β):(if c then [] else [e]).length<=1:=by split <;> simp
def wH (L:List RB):AV:=.sl L.isEmpty (L.map tC)
theorem OutA.val {L:List RB} {v:rA} (h:OutA L v):v.v=wH L:=by
 rcases h with ⟨rfl,h⟩ | ⟨h0,h,_⟩
 ·rw [h]; rfl
 ·rw [h,wH];cases L with
  | nil=>exact absurd rfl h0
  | cons=>rfl
theorem K7 (n:Int) (x y:QA) (h1:x.mems.length<=40) (h2:y.mems.length<=40) (h3:x.syms.length<=40) (h4:y.syms.length<=40) (sa:∀ m∈x.mems,m.ok):wB 44 [.int .i64 n,.agg (iA x),.agg (iA y)] (wH (AS n x y)):=by
 refine EA (c:=SF) rfl rfl ?_;rw [btS_code];have l1:=JJ (x.name=y.name) (uU n y.name);have l2:=JJ (x.low=y.low/\x.high=y.high/\x.max=y.max) (tU n y.low y.high y.max);have l3:=JJ (x.opn=y.opn) (iU n y.opn);have l4:=JJ (x.key=y.key/\x.elem=y.elem) (pU n y.key y.elem);have l5:=xZ n y.mems x.mems;have l6:=SX n x.mems y.mems;have l7:=mX n x.mems y.mems;have l8:=HX n y.syms x.syms;have l9:=SZ n x.syms y.syms;simp only [MG];have t1:(iA x).length=10:=rfl;have t2:(iA y).length=10:=rfl;simp [btS0,btS1,-J,-y6,-y5,y0,t1,t2];refine bt_Name (n:=n) (x:=x) (y:=y) (L:=[]) (by simp) _ ⟨by simp,by simp,by simp,by simp,by simp,.inl ⟨rfl,by simp⟩,by simp⟩ _ (fun s h=>?_);rw [yW] at h;rw [JC,MG];refine bt_Bnds (by omega) s h _ (fun s h=>?_);rw [JC,MG];refine bt_Open (by simp only [yb]; omega) s h _ (fun s h=>?_);rw [JC,MG];refine bt_Uses (by simp only [yb]; omega) s h _ (fun s h=>?_);rw [JC,MG];refine btl_rem (by omega) (by omega) (by simp only [yb]; omega) s h _ (fun s h=>?_);rw [JC,MG];refine btl_chg (by omega) (by omega) sa (by simp only [yb]; omega) s h _ (fun s h=>?_);rw [JC,MG];refine btl_add (by omega) (by omega) (by simp only [yb]; omega) s h _ (fun s h=>?_);rw [JC,MG];refine btl_drp (by omega) (by omega) (by simp only [yb]; omega) s h _ (fun s h=>?_);rw [JC,MG];refine btl_syn (by omega) (by omega) (by simp only [yb]; omega) s h _ (fun s h=>?_);rw [JC,MG];refine btl_sya (by omega) (by omega) (by simp only [yb]; omega) s h _ (fun s h=>?_);have e7:=h.e7.val;simp only [yo] at e7;have hd:AS n x y=tW n x y++(IL n y.mems x.mems++(WL n x.mems y.mems++(QL n x.mems y.mems++(EL n y.syms x.syms++(PL n x.syms y.syms++OL n x.syms y.syms))))):=rfl;rw [tW,yo,yo,yo] at hd;rw [<- hd] at e7;generalize AS n x y=D at *
 simp only [wH] at e7 ⊢;have hr:SF.res=[.tmp 6]:=rfl;simp [btS12,btS13,-J,-y6,-y5,y0,e7,hr]
def OutR (L:List RB) (s:pA):Prop:=(L=[]/\s.env 7=⟨.sl true [],.ex⟩)\/(L≠[]/\∃ d N,30<=d/\1<N/\N<s.next/\(s.env 7).v=.ref d N 25 0 L.length L.length/\s.mem d N=some (xA (L.map tC)))
structure CJ (n:Int) (x y:QA) (L:List RB) (s:pA):Prop where
 e0:(s.env 0).v=.int .i64 n
 e4:(s.env 4).v=.ptr 4 1 0
 e5:(s.env 5).v=.ptr 5 1 0
 m4:s.mem 4 1=some ((iA x).map (⟨·,.no⟩))
 m5:s.mem 5 1=some ((iA y).map (⟨·,.no⟩))
 e7:OutR L s
 nx:1<s.next
 len:L.length<=1000
theorem free_edt (e:RB):(tC e).all AV.free0=true:=rfl
theorem pG (L:List RB):UG (xA (L.map tC)) 25 0 L.length=some (L.map tC):=by
 have:=LB (sC L) (aE _ L free_edt)
 rwa [y7] at this
theorem OutR.of {L:List RB} {s s':pA} (h:OutR L s) (h7:s'.env 7=s.env 7) (hn:s.next<=s'.next) (hm:∀ d N,30<=d->N<s.next->s'.mem d N=s.mem d N):OutR L s':=by
 rcases h with ⟨h0,h⟩ | ⟨h0,d,N,h1,h2,h3,h4,h5⟩
 ·exact .inl ⟨h0,h7.trans h⟩
 ·exact .inr ⟨h0,d,N,h1,h2,Nat.lt_of_lt_of_le h3 hn,by rw [h7]; exact h4,(hm d N h1 h3).trans h5⟩
theorem df_rem {rv:RV} {n:Int} {x y:QA} (hx:x.mems.length<=100) (hy:y.mems.length<=100) {L:List RB} (hL:L.length<=500) (s:pA) (h:CJ n x y L s) (e_l:(s.env 99).v=.sl x.mn (x.mems.map fA)) (e_n:(s.env 100).v=.int .i64 x.mems.length) (e_c:(s.env 101).v=.int .i64 0) (k:Ex->pA->Option RV)
  (hk:∀ s',CJ n x y (L++IL n y.mems x.mems) s'->k (.exit 0) s'=some rv):zF sB BA BC s k=some rv:=by
 refine QE x.mems.length (fun i s=>(s.env 99).v=.sl x.mn (x.mems.map fA)/\(s.env 100).v=.int .i64 x.mems.length/\(s.env 101).v=.int .i64 i/\CJ n x y (L++IL n y.mems (x.mems.take i)) s/\(L++IL n y.mems (x.mems.take i)).length<=L.length + i) (fun e s=>e=.exit 0/\CJ n x y (L++IL n y.mems x.mems) s) (fun i hi s k h ih hk=>?_) _ _ ⟨e_l,e_n,e_c,by simpa [IL] using h,by simp [IL]⟩ (fun e s h=>by obtain ⟨rfl,h⟩:=h; exact hk _ h);obtain ⟨e_l,e_n,e_c,hI,hn⟩:=h;obtain ⟨env,mem,nx,obj,gh⟩:=s;obtain ⟨e0,e4,e5,m4,m5,e7,nxt,da⟩:=hI;dsimp only at e_l e_n e_c e0 e4 e5 m4 m5 nxt;have M4:=m4;have M5:=m5;refine gA ?_;by_cases ba:i<x.mems.length
 ·have ea:(i:Int)<x.mems.length:=by omega
  have hw:=eB (i:=i);obtain ⟨q,hq⟩:∃ q,x.mems[i]?=some q:=⟨_,yg ba⟩;have g1:(x.mems.map fA)[i]?=some (fA q):=by rw [yc,hq]; rfl
  have FD:=DE (fun m=>if TB y.mems m.id<0 then [C5 n m.id] else []) hq;have ec:=LE (uQ y q.id (by omega));simp only [pQ,iA] at ec;simp only [iA] at m4 m5;simp only [fA] at g1;have wa:=ih ba;unfold IL at wa e7 hn da;rw [FD] at wa;generalize gg:L++(x.mems.take i).flatMap (fun m=>if TB y.mems m.id<0 then [C5 n m.id] else [])=L0 at *
  rw [<- yo,gg] at wa;have kb:(x.mems.map fA).length=x.mems.length:=y7 _;generalize fc:x.mems.map fA=ml at *
  have ga:RA 272 (L0.length + 1)=true:=by rw [sA]; omega
  have gb:=sC L0;have wb:(L0.map tC).length=L0.length:=y7 _;by_cases hc:TB y.mems q.id<0
  ·rw [if_pos hc] at wa;rcases e7 with ⟨rfl,e7⟩ | ⟨h0,d,N,d1,d2,d3,e7,d4⟩
   ·have ga:RA 272 1=true:=by rw [sA]; omega
    dsimp only at e7;simp [BC,-J,-y6,-y5,y0,-aA,-uA,wA,tA,eA,qA,wA,tA,qA,e_l,e_n,e_c,e0,e4,e5,e7,m4,m5,ea,hw,kb,g1,ec,hc,ga];refine wa _ ⟨by simp [e_l],by simp [e_n],by simp,⟨by simp [e0],by simp [e4],by simp [e5],?_,?_,.inr ⟨by simp,116,nx + 1 + 1 + 1,by omega,by omega,?_,?_,?_⟩,?_,?_⟩,?_⟩
    ·simp [m4,iA,fc]
    ·simp [m5,iA]
    ·simp
    ·simp
    ·simp; rfl
    ·dsimp only; omega
    ·first | (simp; done) | (simp; omega)
    ·first | (simp; done) | (simp; omega)
   ·dsimp only at d3 e7 d4;have n1:¬ N=nx + 1:=by omega
    have n2:¬ 4=d:=by omega
    have n3:¬ 5=d:=by omega
    have n4:¬ d=0:=by omega
    have li:=pG L0;simp [n1,n4,BC,-J,-y6,-y5,y0,-aA,-uA,wA,tA,eA,qA,wA,tA,qA,e_l,e_n,e_c,e0,e4,e5,e7,d4,m4,m5,ea,hw,kb,g1,ec,hc,ga,gb,wb,li];refine wa _ ⟨by simp [e_l],by simp [e_n],by simp,⟨by simp [e0],by simp [e4,n2],by simp [e5,n3],?_,?_,.inr ⟨by simp,116,nx + 1 + 1 + 1,by omega,by omega,?_,?_,?_⟩,?_,?_⟩,?_⟩
    ·simp [m4,iA,fc,n2]
    ·simp [m5,iA,n3]
    ·simp
    ·simp
    ·simp; rfl
    ·dsimp only; omega
    ·first | (simp; done) | (simp; omega)
    ·first | (simp; done) | (simp; omega)
  ·rw [if_neg hc,yz] at wa;simp [BC,-J,-y6,-y5,y0,-aA,-uA,wA,tA,eA,qA,wA,tA,qA,e_l,e_n,e_c,e0,e4,e5,m4,m5,ea,hw,kb,g1,ec,hc];refine wa _ ⟨by simp [e_l],by simp [e_n],by simp,⟨by simp [e0],by simp [e4],by simp [e5],by simp [M4],by simp [M5],e7.of ?_ ?_ ?_,?_,da⟩,by omega⟩
   ·simp
   ·dsimp only; omega
   ·intro d N h1 h2;have h3:¬ N=nx + 1:=by dsimp only at h2; omega
    simp [h3]
   ·dsimp only; omega
 ·have ea:¬ (i:Int)<x.mems.length:=by omega
  have:i=x.mems.length:=by omega
  subst this;rw [List.take_length] at e7 da;simp [BC,-J,-y6,-y5,y0,-aA,-uA,wA,tA,eA,qA,e_c,e_n,ea];exact hk _ _ ⟨rfl,by simp [e0],by simp [e4],by simp [e5],M4,M5,e7.of (by simp) (by simp) (fun _ _ _ _=>rfl),by dsimp only; omega,da⟩
section
variable {rv:RV} {n:Int} {x y:QA}
include rv n x y
theorem df_add (hx:x.mems.length<=100) (hy:y.mems.length<=100) {L:List RB} (hL:L.length<=500) (s:pA) (h:CJ n x y L s) (e_l:(s.env 149).v=.sl y.mn (y.mems.map fA)) (e_n:(s.env 150).v=.int .i64 y.mems.length) (e_c:(s.env 151).v=.int .i64 0) (k:Ex->pA->Option RV)
  (hk:∀ s',CJ n x y (L++QL n x.mems y.mems) s'->k (.exit 4) s'=some rv):zF sB BA CC s k=some rv:=by
 refine QE y.mems.length (fun i s=>(s.env 149).v=.sl y.mn (y.mems.map fA)/\(s.env 150).v=.int .i64 y.mems.length/\(s.env 151).v=.int .i64 i/\CJ n x y (L++QL n x.mems (y.mems.take i)) s/\(L++QL n x.mems (y.mems.take i)).length<=L.length + i) (fun e s=>e=.exit 4/\CJ n x y (L++QL n x.mems y.mems) s) (fun i hi s k h ih hk=>?_) _ _ ⟨e_l,e_n,e_c,by simpa [QL] using h,by simp [QL]⟩ (fun e s h=>by obtain ⟨rfl,h⟩:=h; exact hk _ h);obtain ⟨e_l,e_n,e_c,hI,hn⟩:=h;obtain ⟨env,mem,nx,obj,gh⟩:=s;obtain ⟨e0,e4,e5,m4,m5,e7,nxt,da⟩:=hI;dsimp only at e_l e_n e_c e0 e4 e5 m4 m5 nxt;have M4:=m4;have M5:=m5;refine gA ?_;by_cases ba:i<y.mems.length
 ·have ea:(i:Int)<y.mems.length:=by omega
  have hw:=eB (i:=i);obtain ⟨q,hq⟩:∃ q,y.mems[i]?=some q:=⟨_,yg ba⟩;have g1:(y.mems.map fA)[i]?=some (fA q):=by rw [yc,hq]; rfl
  have FD:=DE (fun m=>if TB x.mems m.id<0 then [X5 n m] else []) hq;have ec:=LE (uQ x q.id (by omega));simp only [pQ,iA] at ec;simp only [iA] at m4 m5;simp only [fA] at g1;have wa:=ih ba;unfold QL at wa e7 hn da;rw [FD] at wa;generalize gg:L++(y.mems.take i).flatMap (fun m=>if TB x.mems m.id<0 then [X5 n m] else [])=L0 at *
  rw [<- yo,gg] at wa;have kb:(y.mems.map fA).length=y.mems.length:=y7 _;generalize fc:y.mems.map fA=ml at *
  have ga:RA 272 (L0.length + 1)=true:=by rw [sA]; omega
  have gb:=sC L0;have wb:(L0.map tC).length=L0.length:=y7 _;by_cases hc:TB x.mems q.id<0
  ·rw [if_pos hc] at wa;rcases e7 with ⟨rfl,e7⟩ | ⟨h0,d,N,d1,d2,d3,e7,d4⟩
   ·have ga:RA 272 1=true:=by rw [sA]; omega
    dsimp only at e7;simp [CC,-J,-y6,-y5,y0,-aA,-uA,wA,tA,eA,qA,wA,tA,qA,e_l,e_n,e_c,e0,e4,e5,e7,m4,m5,ea,hw,kb,g1,ec,hc,ga];refine wa _ ⟨by simp [e_l],by simp [e_n],by simp,⟨by simp [e0],by simp [e4],by simp [e5],?_,?_,.inr ⟨by simp,165,nx + 1 + 1 + 1,by omega,by omega,?_,?_,?_⟩,?_,?_⟩,?_⟩
    ·simp [m4,iA,fc]
    ·simp [m5,iA,fc]
    ·simp
    ·simp
    ·simp; rfl
    ·dsimp only; omega
    ·first | (simp; done) | (simp; omega)
    ·first | (simp; done) | (simp; omega)
   ·dsimp only at d3 e7 d4;have n1:¬ N=nx + 1:=by omega
    have n2:¬ 4=d:=by omega
    have n3:¬ 5=d:=by omega
    have n4:¬ d=0:=by omega
    have li:=pG L0;simp [n1,n4,CC,-J,-y6,-y5,y0,-aA,-uA,wA,tA,eA,qA,wA,tA,qA,e_l,e_n,e_c,e0,e4,e5,e7,d4,m4,m5,ea,hw,kb,g1,ec,hc,ga,gb,wb,li];refine wa _ ⟨by simp [e_l],by simp [e_n],by simp,⟨by simp [e0],by simp [e4,n2],by simp [e5,n3],?_,?_,.inr ⟨by simp,165,nx + 1 + 1 + 1,by omega,by omega,?_,?_,?_⟩,?_,?_⟩,?_⟩
    ·simp [m4,iA,fc,n2]
    ·simp [m5,iA,fc,n3]
    ·simp
    ·simp
    ·simp; rfl
    ·dsimp only; omega
    ·first | (simp; done) | (simp; omega)
    ·first | (simp; done) | (simp; omega)
  ·rw [if_neg hc,yz] at wa;simp [CC,-J,-y6,-y5,y0,-aA,-uA,wA,tA,eA,qA,wA,tA,qA,e_l,e_n,e_c,e0,e4,e5,m4,m5,ea,hw,kb,g1,ec,hc];refine wa _ ⟨by simp [e_l],by simp [e_n],by simp,⟨by simp [e0],by simp [e4],by simp [e5],by simp [M4],by simp [M5],e7.of ?_ ?_ ?_,?_,da⟩,by omega⟩
   ·simp
   ·dsimp only; omega
   ·intro d N h1 h2;have h3:¬ N=nx + 1:=by dsimp only at h2; omega
    simp [h3]
   ·dsimp only; omega
 ·have ea:¬ (i:Int)<y.mems.length:=by omega
  have:i=y.mems.length:=by omega
  subst this;rw [List.take_length] at e7 da;simp [CC,-J,-y6,-y5,y0,-aA,-uA,wA,tA,eA,qA,e_c,e_n,ea];exact hk _ _ ⟨rfl,by simp [e0],by simp [e4],by simp [e5],M4,M5,e7.of (by simp) (by simp) (fun _ _ _ _=>rfl),by dsimp only; omega,da⟩
theorem df_drp (hx:x.syms.length<=100) (hy:y.syms.length<=100) {L:List RB} (hL:L.length<=500) (s:pA) (h:CJ n x y L s) (e_l:(s.env 168).v=.sl x.sn (x.syms.map jA)) (e_n:(s.env 169).v=.int .i64 x.syms.length) (e_c:(s.env 170).v=.int .i64 0) (k:Ex->pA->Option RV)
  (hk:∀ s',CJ n x y (L++EL n y.syms x.syms) s'->k (.exit 6) s'=some rv):zF sB BA XC s k=some rv:=by
 refine QE x.syms.length (fun i s=>(s.env 168).v=.sl x.sn (x.syms.map jA)/\(s.env 169).v=.int .i64 x.syms.length/\(s.env 170).v=.int .i64 i/\CJ n x y (L++EL n y.syms (x.syms.take i)) s/\(L++EL n y.syms (x.syms.take i)).length<=L.length + i) (fun e s=>e=.exit 6/\CJ n x y (L++EL n y.syms x.syms) s) (fun i hi s k h ih hk=>?_) _ _ ⟨e_l,e_n,e_c,by simpa [EL] using h,by simp [EL]⟩ (fun e s h=>by obtain ⟨rfl,h⟩:=h; exact hk _ h);obtain ⟨e_l,e_n,e_c,hI,hn⟩:=h;obtain ⟨env,mem,nx,obj,gh⟩:=s;obtain ⟨e0,e4,e5,m4,m5,e7,nxt,da⟩:=hI;dsimp only at e_l e_n e_c e0 e4 e5 m4 m5 nxt;have M4:=m4;have M5:=m5;refine gA ?_;by_cases ba:i<x.syms.length
 ·have ea:(i:Int)<x.syms.length:=by omega
  have hw:=eB (i:=i);obtain ⟨q,hq⟩:∃ q,x.syms[i]?=some q:=⟨_,yg ba⟩;have g1:(x.syms.map jA)[i]?=some (jA q):=by rw [yc,hq]; rfl
  have FD:=DE (fun m=>if UB y.syms m.id<0 then [KX n m.id] else []) hq;have ec:=LE (SS y q.id (by omega));simp only [pQ,iA] at ec;simp only [iA] at m4 m5;simp only [jA] at g1;have wa:=ih ba;unfold EL at wa e7 hn da;rw [FD] at wa;generalize gg:L++(x.syms.take i).flatMap (fun m=>if UB y.syms m.id<0 then [KX n m.id] else [])=L0 at *
  rw [<- yo,gg] at wa;have kb:(x.syms.map jA).length=x.syms.length:=y7 _;generalize fc:x.syms.map jA=ml at *
  have ga:RA 272 (L0.length + 1)=true:=by rw [sA]; omega
  have gb:=sC L0;have wb:(L0.map tC).length=L0.length:=y7 _;by_cases hc:UB y.syms q.id<0
  ·rw [if_pos hc] at wa;rcases e7 with ⟨rfl,e7⟩ | ⟨h0,d,N,d1,d2,d3,e7,d4⟩
   ·have ga:RA 272 1=true:=by rw [sA]; omega
    dsimp only at e7;simp [XC,-J,-y6,-y5,y0,-aA,-uA,wA,tA,eA,qA,wA,tA,qA,e_l,e_n,e_c,e0,e4,e5,e7,m4,m5,ea,hw,kb,g1,ec,hc,ga];refine wa _ ⟨by simp [e_l],by simp [e_n],by simp,⟨by simp [e0],by simp [e4],by simp [e5],?_,?_,.inr ⟨by simp,185,nx + 1 + 1 + 1,by omega,by omega,?_,?_,?_⟩,?_,?_⟩,?_⟩
    ·simp [m4,iA,fc]
    ·simp [m5,iA,fc]
    ·simp
    ·simp
    ·simp; rfl
    ·dsimp only; omega
    ·first | (simp; done) | (simp; omega)
    ·first | (simp; done) | (simp; omega)
   ·dsimp only at d3 e7 d4;have n1:¬ N=nx + 1:=by omega
    have n2:¬ 4=d:=by omega
    have n3:¬ 5=d:=by omega
    have n4:¬ d=0:=by omega
    have li:=pG L0;simp [n1,n4,XC,-J,-y6,-y5,y0,-aA,-uA,wA,tA,eA,qA,wA,tA,qA,e_l,e_n,e_c,e0,e4,e5,e7,d4,m4,m5,ea,hw,kb,g1,ec,hc,ga,gb,wb,li];refine wa _ ⟨by simp [e_l],by simp [e_n],by simp,⟨by simp [e0],by simp [e4,n2],by simp [e5,n3],?_,?_,.inr ⟨by simp,185,nx + 1 + 1 + 1,by omega,by omega,?_,?_,?_⟩,?_,?_⟩,?_⟩
    ·simp [m4,iA,fc,n2]
    ·simp [m5,iA,fc,n3]
    ·simp
    ·simp
    ·simp; rfl
    ·dsimp only; omega
    ·first | (simp; done) | (simp; omega)
    ·first | (simp; done) | (simp; omega)
  ·rw [if_neg hc,yz] at wa;simp [XC,-J,-y6,-y5,y0,-aA,-uA,wA,tA,eA,qA,wA,tA,qA,e_l,e_n,e_c,e0,e4,e5,m4,m5,ea,hw,kb,g1,ec,hc];refine wa _ ⟨by simp [e_l],by simp [e_n],by simp,⟨by simp [e0],by simp [e4],by simp [e5],by simp [M4],by simp [M5],e7.of ?_ ?_ ?_,?_,da⟩,by omega⟩
   ·simp
   ·dsimp only; omega
   ·intro d N h1 h2;have h3:¬ N=nx + 1:=by dsimp only at h2; omega
    simp [h3]
   ·dsimp only; omega
 ·have ea:¬ (i:Int)<x.syms.length:=by omega
  have:i=x.syms.length:=by omega
  subst this;rw [List.take_length] at e7 da;simp [XC,-J,-y6,-y5,y0,-aA,-uA,wA,tA,eA,qA,e_c,e_n,ea];exact hk _ _ ⟨rfl,by simp [e0],by simp [e4],by simp [e5],M4,M5,e7.of (by simp) (by simp) (fun _ _ _ _=>rfl),by dsimp only; omega,da⟩
theorem df_sya (hx:x.syms.length<=100) (hy:y.syms.length<=100) {L:List RB} (hL:L.length<=500) (s:pA) (h:CJ n x y L s) (e_l:(s.env 219).v=.sl y.sn (y.syms.map jA)) (e_n:(s.env 220).v=.int .i64 y.syms.length) (e_c:(s.env 221).v=.int .i64 0) (k:Ex->pA->Option RV)
  (hk:∀ s',CJ n x y (L++OL n x.syms y.syms) s'->k (.exit 10) s'=some rv):zF sB BA ZC s k=some rv:=by
 refine QE y.syms.length (fun i s=>(s.env 219).v=.sl y.sn (y.syms.map jA)/\(s.env 220).v=.int .i64 y.syms.length/\(s.env 221).v=.int .i64 i/\CJ n x y (L++OL n x.syms (y.syms.take i)) s/\(L++OL n x.syms (y.syms.take i)).length<=L.length + i) (fun e s=>e=.exit 10/\CJ n x y (L++OL n x.syms y.syms) s) (fun i hi s k h ih hk=>?_) _ _ ⟨e_l,e_n,e_c,by simpa [OL] using h,by simp [OL]⟩ (fun e s h=>by obtain ⟨rfl,h⟩:=h; exact hk _ h);obtain ⟨e_l,e_n,e_c,hI,hn⟩:=h;obtain ⟨env,mem,nx,obj,gh⟩:=s;obtain ⟨e0,e4,e5,m4,m5,e7,nxt,da⟩:=hI;dsimp only at e_l e_n e_c e0 e4 e5 m4 m5 nxt;have M4:=m4;have M5:=m5;refine gA ?_;by_cases ba:i<y.syms.length
 ·have ea:(i:Int)<y.syms.length:=by omega
  have hw:=eB (i:=i);obtain ⟨q,hq⟩:∃ q,y.syms[i]?=some q:=⟨_,yg ba⟩;have g1:(y.syms.map jA)[i]?=some (jA q):=by rw [yc,hq]; rfl
  have FD:=DE (fun m=>if UB x.syms m.id<0 then [qW n m] else []) hq;have ec:=LE (SS x q.id (by omega));simp only [pQ,iA] at ec;simp only [iA] at m4 m5;simp only [jA] at g1;have wa:=ih ba;unfold OL at wa e7 hn da;rw [FD] at wa;generalize gg:L++(y.syms.take i).flatMap (fun m=>if UB x.syms m.id<0 then [qW n m] else [])=L0 at *
  rw [<- yo,gg] at wa;have kb:(y.syms.map jA).length=y.syms.length:=y7 _;generalize fc:y.syms.map jA=ml at *
  have ga:RA 272 (L0.length + 1)=true:=by rw [sA]; omega
  have gb:=sC L0;have wb:(L0.map tC).length=L0.length:=y7 _;by_cases hc:UB x.syms q.id<0
  ·rw [if_pos hc] at wa;rcases e7 with ⟨rfl,e7⟩ | ⟨h0,d,N,d1,d2,d3,e7,d4⟩
   ·have ga:RA 272 1=true:=by rw [sA]; omega
    dsimp only at e7;simp [ZC,-J,-y6,-y5,y0,-aA,-uA,wA,tA,eA,qA,wA,tA,qA,e_l,e_n,e_c,e0,e4,e5,e7,m4,m5,ea,hw,kb,g1,ec,hc,ga];refine wa _ ⟨by simp [e_l],by simp [e_n],by simp,⟨by simp [e0],by simp [e4],by simp [e5],?_,?_,.inr ⟨by simp,235,nx + 1 + 1 + 1,by omega,by omega,?_,?_,?_⟩,?_,?_⟩,?_⟩
    ·simp [m4,iA,fc]
    ·simp [m5,iA,fc]
    ·simp
    ·simp
    ·simp; rfl
    ·dsimp only; omega
    ·first | (simp; done) | (simp; omega)
    ·first | (simp; done) | (simp; omega)
   ·dsimp only at d3 e7 d4;have n1:¬ N=nx + 1:=by omega
    have n2:¬ 4=d:=by omega
    have n3:¬ 5=d:=by omega
    have n4:¬ d=0:=by omega
    have li:=pG L0;simp [n1,n4,ZC,-J,-y6,-y5,y0,-aA,-uA,wA,tA,eA,qA,wA,tA,qA,e_l,e_n,e_c,e0,e4,e5,e7,d4,m4,m5,ea,hw,kb,g1,ec,hc,ga,gb,wb,li];refine wa _ ⟨by simp [e_l],by simp [e_n],by simp,⟨by simp [e0],by simp [e4,n2],by simp [e5,n3],?_,?_,.inr ⟨by simp,235,nx + 1 + 1 + 1,by omega,by omega,?_,?_,?_⟩,?_,?_⟩,?_⟩
    ·simp [m4,iA,fc,n2]
    ·simp [m5,iA,fc,n3]
    ·simp
    ·simp
    ·simp; rfl
    ·dsimp only; omega
    ·first | (simp; done) | (simp; omega)
    ·first | (simp; done) | (simp; omega)
  ·rw [if_neg hc,yz] at wa;simp [ZC,-J,-y6,-y5,y0,-aA,-uA,wA,tA,eA,qA,wA,tA,qA,e_l,e_n,e_c,e0,e4,e5,m4,m5,ea,hw,kb,g1,ec,hc];refine wa _ ⟨by simp [e_l],by simp [e_n],by simp,⟨by simp [e0],by simp [e4],by simp [e5],by simp [M4],by simp [M5],e7.of ?_ ?_ ?_,?_,da⟩,by omega⟩
   ·simp
   ·dsimp only; omega
   ·intro d N h1 h2;have h3:¬ N=nx + 1:=by dsimp only at h2; omega
    simp [h3]
   ·dsimp only; omega
 ·have ea:¬ (i:Int)<y.syms.length:=by omega
  have:i=y.syms.length:=by omega
  subst this;rw [List.take_length] at e7 da;simp [ZC,-J,-y6,-y5,y0,-aA,-uA,wA,tA,eA,qA,e_c,e_n,ea];exact hk _ _ ⟨rfl,by simp [e0],by simp [e4],by simp [e5],M4,M5,e7.of (by simp) (by simp) (fun _ _ _ _=>rfl),by dsimp only; omega,da⟩
theorem df_chg (hx:x.mems.length<=100) (hy:y.mems.length<=100) (sa:∀ m∈x.mems,m.ok) {L:List RB} (hL:L.length<=500) (s:pA) (h:CJ n x y L s) (e_l:(s.env 119).v=.sl y.mn (y.mems.map fA)) (e_n:(s.env 120).v=.int .i64 y.mems.length) (e_c:(s.env 121).v=.int .i64 0) (k:Ex->pA->Option RV)
  (hk:∀ s',CJ n x y (L++WL n x.mems y.mems) s'->k (.exit 2) s'=some rv):zF sB BA zC s k=some rv:=by
 refine QE y.mems.length (fun i s=>(s.env 119).v=.sl y.mn (y.mems.map fA)/\(s.env 120).v=.int .i64 y.mems.length/\(s.env 121).v=.int .i64 i/\CJ n x y (L++WL n x.mems (y.mems.take i)) s/\(L++WL n x.mems (y.mems.take i)).length<=L.length + i) (fun e s=>e=.exit 2/\CJ n x y (L++WL n x.mems y.mems) s) (fun i hi s k h ih hk=>?_) _ _ ⟨e_l,e_n,e_c,by simpa [WL] using h,by simp [WL]⟩ (fun e s h=>by obtain ⟨rfl,h⟩:=h; exact hk _ h);obtain ⟨e_l,e_n,e_c,hI,hn⟩:=h;obtain ⟨env,mem,nx,obj,gh⟩:=s;obtain ⟨e0,e4,e5,m4,m5,e7,nxt,da⟩:=hI;dsimp only at e_l e_n e_c e0 e4 e5 m4 m5 nxt;have M4:=m4;have M5:=m5;refine gA ?_;by_cases ba:i<y.mems.length
 ·have ea:(i:Int)<y.mems.length:=by omega
  have hw:=eB (i:=i);obtain ⟨q,hq⟩:∃ q,y.mems[i]?=some q:=⟨_,yg ba⟩;have g1:(y.mems.map fA)[i]?=some (fA q):=by rw [yc,hq]; rfl
  have FD:=DE (SM n x.mems) hq;have ec:=LE (uQ x q.id (by omega));simp only [pQ,iA] at ec;simp only [iA] at m4 m5;simp only [fA] at g1;have wa:=ih ba;unfold WL at wa e7 hn da;rw [FD] at wa;generalize gg:L++(y.mems.take i).flatMap (SM n x.mems)=L0 at *
  rw [<- yo,gg] at wa;have kb:(y.mems.map fA).length=y.mems.length:=y7 _;have ga:RA 272 (L0.length + 1)=true:=by rw [sA]; omega
  have gb:=sC L0;have wb:(L0.map tC).length=L0.length:=y7 _;have kf:(x.mems.map fA).length=x.mems.length:=y7 _;by_cases hc:TB x.mems q.id<0
  ·have hf:(SM n x.mems) q=[]:=by
    unfold SM;split
    ·rw [if_neg (by omega)]
    ·rfl
   rw [hf,yz] at wa;have jc:¬ 0<=TB x.mems q.id:=by omega
   generalize fc:y.mems.map fA=ml at *
   generalize oe:x.mems.map fA=mlx at *
   simp [zC,-J,-y6,-y5,y0,-aA,-uA,wA,tA,eA,qA,wA,tA,qA,e_l,e_n,e_c,e0,e4,e5,m4,m5,ea,hw,kb,kf,jc, g1,ec,hc];refine wa _ ⟨by simp [e_l],by simp [e_n],by simp,⟨by simp [e0],by simp [e4],by simp [e5],by simp [M4],by simp [M5],e7.of ?_ ?_ ?_,?_,da⟩,by omega⟩
   ·simp
   ·dsimp only; omega
   ·intro d N h1 h2;have h3:¬ N=nx + 1:=by dsimp only at h2; omega
    simp [h3]
   ·dsimp only; omega
  ·have jc:0<=TB x.mems q.id:=by omega
   obtain ⟨q',ul,_⟩:=FH (fun m=>decide (m.id=q.id)) x.mems (fun e=>by unfold TB at jc; omega);have dg:x.mems[(TB x.mems q.id).toNat]?=some q':=ul;have zl:TB x.mems q.id<x.mems.length:=iX _ _;have g3:(x.mems.map fA)[(TB x.mems q.id).toNat]?=some (fA q'):=by rw [yc,dg]; rfl
   have z0:0<=TB x.mems q.id:=jc;have lg:=LE (esame_ev q' q (sa q' (yD dg)));simp only [pQ,fA] at lg;simp only [fA] at g3;by_cases ht:q'.same q=true
   ·have hf:(SM n x.mems) q=[]:=by
     unfold SM;rw [dg];dsimp only;rw [if_neg (by simp [ht])]
    rw [hf,yz] at wa;generalize fc:y.mems.map fA=ml at *
    generalize oe:x.mems.map fA=mlx at *
    generalize TB x.mems q.id=z at *
    rw [ht] at lg;simp [zC,-J,-y6,-y5,y0,-aA,-uA,wA,tA,eA,qA,wA,tA,qA,e_l,e_n,e_c,e0,e4,e5,m4,m5,ea,hw,kb,kf,g3,z0,zl,lg,ht,jc, g1,ec,hc];refine wa _ ⟨by simp [e_l],by simp [e_n],by simp,⟨by simp [e0],by simp [e4],by simp [e5],by simp [M4],by simp [M5],e7.of ?_ ?_ ?_,?_,da⟩,by omega⟩
    ·simp
    ·dsimp only; omega
    ·intro d N h1 h2;have h3:¬ N=nx + 1:=by dsimp only at h2; omega
     simp [h3]
    ·dsimp only; omega
   ·have hf:(SM n x.mems) q=[edMem n q]:=by
     unfold SM;rw [dg];dsimp only;rw [if_pos ⟨jc,by simpa using ht⟩]
    rw [hf] at wa;generalize fc:y.mems.map fA=ml at *
    generalize oe:x.mems.map fA=mlx at *
    generalize TB x.mems q.id=z at *
    rw [Bool.eq_false_iff.2 ht] at lg;rcases e7 with ⟨rfl,e7⟩ | ⟨h0,d,N,d1,d2,d3,e7,d4⟩
    ·have ga:RA 272 1=true:=by rw [sA]; omega
     dsimp only at e7;simp [zC,-J,-y6,-y5,y0,-aA,-uA,wA,tA,eA,qA,wA,tA,qA,e_l,e_n,e_c,e0,e4,e5,e7,m4,m5,ea,hw,kb,kf,g3,z0,zl,lg,ht,jc, g1,ec,hc,ga];refine wa _ ⟨by simp [e_l],by simp [e_n],by simp,⟨by simp [e0],by simp [e4],by simp [e5],?_,?_,.inr ⟨by simp,146,nx + 1 + 1 + 1 + 1,by omega,by omega,?_,?_,?_⟩,?_,?_⟩,?_⟩
     ·simp [m4,iA,fc,oe]
     ·simp [m5,iA,fc,oe]
     ·simp
     ·simp
     ·simp; rfl
     ·dsimp only; omega
     ·first | (simp; done) | (simp; omega)
     ·first | (simp; done) | (simp; omega)
    ·dsimp only at d3 e7 d4;have n1:¬ N=nx + 1:=by omega
     have n2:¬ 4=d:=by omega
     have n3:¬ 5=d:=by omega
     have n4:¬ d=0:=by omega
     have li:=pG L0;simp [n1,n4,zC,-J,-y6,-y5,y0,-aA,-uA,wA,tA,eA,qA,wA,tA,qA,e_l,e_n,e_c,e0,e4,e5,e7,d4,m4,m5,ea,hw,kb,kf,g3,z0,zl,lg,ht,jc, g1,ec,hc,ga,gb,wb,li];refine wa _ ⟨by simp [e_l],by simp [e_n],by simp,⟨by simp [e0],by simp [e4,n2],by simp [e5,n3],?_,?_,.inr ⟨by simp,146,nx + 1 + 1 + 1 + 1,by omega,by omega,?_,?_,?_⟩,?_,?_⟩,?_⟩
     ·simp [m4,iA,fc,oe,n2]
     ·simp [m5,iA,fc,oe,n3]
     ·simp
     ·simp
     ·simp; rfl
     ·dsimp only; omega
     ·first | (simp; done) | (simp; omega)
     ·first | (simp; done) | (simp; omega)
 ·have ea:¬ (i:Int)<y.mems.length:=by omega
  have:i=y.mems.length:=by omega
  subst this;rw [List.take_length] at e7 da;simp [zC,-J,-y6,-y5,y0,-aA,-uA,wA,tA,eA,qA,e_c,e_n,ea];exact hk _ _ ⟨rfl,by simp [e0],by simp [e4],by simp [e5],M4,M5,e7.of (by simp) (by simp) (fun _ _ _ _=>rfl),by dsimp only; omega,da⟩
theorem df_syn (hx:x.syms.length<=100) (hy:y.syms.length<=100) {L:List RB} (hL:L.length<=500) (s:pA) (h:CJ n x y L s) (e_l:(s.env 188).v=.sl y.sn (y.syms.map jA)) (e_n:(s.env 189).v=.int .i64 y.syms.length) (e_c:(s.env 190).v=.int .i64 0) (k:Ex->pA->Option RV)
  (hk:∀ s',CJ n x y (L++PL n x.syms y.syms) s'->k (.exit 8) s'=some rv):zF sB BA lC s k=some rv:=by
 refine QE y.syms.length (fun i s=>(s.env 188).v=.sl y.sn (y.syms.map jA)/\(s.env 189).v=.int .i64 y.syms.length/\(s.env 190).v=.int .i64 i/\CJ n x y (L++PL n x.syms (y.syms.take i)) s/\(L++PL n x.syms (y.syms.take i)).length<=L.length + i) (fun e s=>e=.exit 8/\CJ n x y (L++PL n x.syms y.syms) s) (fun i hi s k h ih hk=>?_) _ _ ⟨e_l,e_n,e_c,by simpa [PL] using h,by simp [PL]⟩ (fun e s h=>by obtain ⟨rfl,h⟩:=h; exact hk _ h);obtain ⟨e_l,e_n,e_c,hI,hn⟩:=h;obtain ⟨env,mem,nx,obj,gh⟩:=s;obtain ⟨e0,e4,e5,m4,m5,e7,nxt,da⟩:=hI;dsimp only at e_l e_n e_c e0 e4 e5 m4 m5 nxt;have M4:=m4;have M5:=m5;refine gA ?_;by_cases ba:i<y.syms.length
 ·have ea:(i:Int)<y.syms.length:=by omega
  have hw:=eB (i:=i);obtain ⟨q,hq⟩:∃ q,y.syms[i]?=some q:=⟨_,yg ba⟩;have g1:(y.syms.map jA)[i]?=some (jA q):=by rw [yc,hq]; rfl
  have FD:=DE (sN n x.syms) hq;have ec:=LE (SS x q.id (by omega));simp only [pQ,iA] at ec;simp only [iA] at m4 m5;simp only [jA] at g1;have wa:=ih ba;unfold PL at wa e7 hn da;rw [FD] at wa;generalize gg:L++(y.syms.take i).flatMap (sN n x.syms)=L0 at *
  rw [<- yo,gg] at wa;have kb:(y.syms.map jA).length=y.syms.length:=y7 _;have ga:RA 272 (L0.length + 1)=true:=by rw [sA]; omega
  have gb:=sC L0;have wb:(L0.map tC).length=L0.length:=y7 _;have kf:(x.syms.map jA).length=x.syms.length:=y7 _;by_cases hc:UB x.syms q.id<0
  ·have hf:(sN n x.syms) q=[]:=by
    unfold sN;split
    ·rw [if_neg (by omega)]
    ·rfl
   rw [hf,yz] at wa;have jc:¬ 0<=UB x.syms q.id:=by omega
   generalize fc:y.syms.map jA=ml at *
   generalize oe:x.syms.map jA=mlx at *
   simp [lC,-J,-y6,-y5,y0,-aA,-uA,wA,tA,eA,qA,wA,tA,qA,e_l,e_n,e_c,e0,e4,e5,m4,m5,ea,hw,kb,kf,jc, g1,ec,hc];refine wa _ ⟨by simp [e_l],by simp [e_n],by simp,⟨by simp [e0],by simp [e4],by simp [e5],by simp [M4],by simp [M5],e7.of ?_ ?_ ?_,?_,da⟩,by omega⟩
   ·simp
   ·dsimp only; omega
   ·intro d N h1 h2;have h3:¬ N=nx + 1:=by dsimp only at h2; omega
    simp [h3]
   ·dsimp only; omega
  ·have jc:0<=UB x.syms q.id:=by omega
   obtain ⟨q',ul,_⟩:=FH (fun m=>decide (m.id=q.id)) x.syms (fun e=>by unfold UB at jc; omega);have dg:x.syms[(UB x.syms q.id).toNat]?=some q':=ul;have zl:UB x.syms q.id<x.syms.length:=iX _ _;have g3:(x.syms.map jA)[(UB x.syms q.id).toNat]?=some (jA q'):=by rw [yc,dg]; rfl
   have z0:0<=UB x.syms q.id:=jc;simp only [jA] at g3;by_cases ht:q'.name=q.name
   ·have hf:(sN n x.syms) q=[]:=by
     unfold sN;rw [dg];dsimp only;rw [if_neg (by simp [ht])]
    rw [hf,yz] at wa;generalize fc:y.syms.map jA=ml at *
    generalize oe:x.syms.map jA=mlx at *
    generalize UB x.syms q.id=z at *
    simp [lC,-J,-y6,-y5,y0,-aA,-uA,wA,tA,eA,qA,wA,tA,qA,e_l,e_n,e_c,e0,e4,e5,m4,m5,ea,hw,kb,kf,g3,z0,zl,ht,jc, g1,ec,hc];refine wa _ ⟨by simp [e_l],by simp [e_n],by simp,⟨by simp [e0],by simp [e4],by simp [e5],by simp [M4],by simp [M5],e7.of ?_ ?_ ?_,?_,da⟩,by omega⟩
    ·simp
    ·dsimp only; omega
    ·intro d N h1 h2;have h3:¬ N=nx + 1:=by dsimp only at h2; omega
     simp [h3]
    ·dsimp only; omega
   ·have hf:(sN n x.syms) q=[qW n q]:=by
     unfold sN;rw [dg];dsimp only;rw [if_pos ⟨jc,by simpa using ht⟩]
    rw [hf] at wa;generalize fc:y.syms.map jA=ml at *
    generalize oe:x.syms.map jA=mlx at *
    generalize UB x.syms q.id=z at *
    rcases e7 with ⟨rfl,e7⟩ | ⟨h0,d,N,d1,d2,d3,e7,d4⟩
    ·have ga:RA 272 1=true:=by rw [sA]; omega
     dsimp only at e7;simp [lC,-J,-y6,-y5,y0,-aA,-uA,wA,tA,eA,qA,wA,tA,qA,e_l,e_n,e_c,e0,e4,e5,e7,m4,m5,ea,hw,kb,kf,g3,z0,zl,ht,jc, g1,ec,hc,ga];refine wa _ ⟨by simp [e_l],by simp [e_n],by simp,⟨by simp [e0],by simp [e4],by simp [e5],?_,?_,.inr ⟨by simp,216,nx + 1 + 1 + 1 + 1,by omega,by omega,?_,?_,?_⟩,?_,?_⟩,?_⟩
     ·simp [m4,iA,fc,oe]
     ·simp [m5,iA,fc,oe]
     ·simp
     ·simp
     ·simp; rfl
     ·dsimp only; omega
     ·first | (simp; done) | (simp; omega)
     ·first | (simp; done) | (simp; omega)
    ·dsimp only at d3 e7 d4;have n1:¬ N=nx + 1:=by omega
     have n2:¬ 4=d:=by omega
     have n3:¬ 5=d:=by omega
     have n4:¬ d=0:=by omega
     have li:=pG L0;simp [n1,n4,lC,-J,-y6,-y5,y0,-aA,-uA,wA,tA,eA,qA,wA,tA,qA,e_l,e_n,e_c,e0,e4,e5,e7,d4,m4,m5,ea,hw,kb,kf,g3,z0,zl,ht,jc, g1,ec,hc,ga,gb,wb,li];refine wa _ ⟨by simp [e_l],by simp [e_n],by simp,⟨by simp [e0],by simp [e4,n2],by simp [e5,n3],?_,?_,.inr ⟨by simp,216,nx + 1 + 1 + 1 + 1,by omega,by omega,?_,?_,?_⟩,?_,?_⟩,?_⟩
     ·simp [m4,iA,fc,oe,n2]
     ·simp [m5,iA,fc,oe,n3]
     ·simp
     ·simp
     ·simp; rfl
     ·dsimp only; omega
     ·first | (simp; done) | (simp; omega)
     ·first | (simp; done) | (simp; omega)
 ·have ea:¬ (i:Int)<y.syms.length:=by omega
  have:i=y.syms.length:=by omega
  subst this;rw [List.take_length] at e7 da;simp [lC,-J,-y6,-y5,y0,-aA,-uA,wA,tA,eA,qA,e_c,e_n,ea];exact hk _ _ ⟨rfl,by simp [e0],by simp [e4],by simp [e5],M4,M5,e7.of (by simp) (by simp) (fun _ _ _ _=>rfl),by dsimp only; omega,da⟩
end
def dfS0:C:=.reg [⟨(.some 4),(.box 10 (.t 1)),.none⟩,⟨(.some 5),(.box 10 (.t 2)),.none⟩,⟨(.some 6),(.mv (.c (.sl .true []))),.none⟩]
def dfS1:C:=.reg [⟨(.some 7),(.mv (.c (.sl .true []))),.none⟩]
def dfS2:C:=.seq (.reg [⟨(.some 23),(.faddr 1 (.t 4)),.none⟩,⟨(.some 24),(.load .any .false 1 (.t 23)),.none⟩,⟨(.some 25),(.faddr 1 (.t 5)),.none⟩,⟨(.some 26),(.load .any .false 1 (.t 25)),.none⟩,⟨(.some 27),(.bin .neq .false (.t 24) (.t 26)),.none⟩]) (.cond (.t 27) (.reg [⟨(.some 28),(.mv (.t 7)),.none⟩,⟨(.some 29),(.mv (.t 0)),.none⟩,⟨(.some 30),(.faddr 1 (.t 5)),.none⟩,⟨(.some 31),(.load .any .false 1 (.t 30)),.none⟩,⟨(.some 32),(.build [(.int .i64 0),(.int .i64 0),(.int .i64 0),(.str (ByteArray.mk #[])),(.int .i64 0),(.str (ByteArray.mk #[])),(.int .i64 0),(.bool .false),(.bool .false),(.int .i64 0),(.bool .false),(.int .i64 0),(.str (ByteArray.mk #[])),(.int .i64 0),(.sl .true []),(.sl .true []),(.sl .true []),(.int .i64 0),(.str (ByteArray.mk #[])),(.int .i64 0),(.int .i64 0),(.int .i64 0),(.bool .false),(.int .i64 0),(.int .i64 0)] [(0,(1,(.c (.int .i64 6)))),(1,(1,(.t 29))),(3,(1,(.t 31)))]),.none⟩,⟨(.some 33),(.bsl [(.int .i64 0),(.int .i64 0),(.int .i64 0),(.str (ByteArray.mk #[])),(.int .i64 0),(.str (ByteArray.mk #[])),(.int .i64 0),(.bool .false),(.bool .false),(.int .i64 0),(.bool .false),(.int .i64 0),(.str (ByteArray.mk #[])),(.int .i64 0),(.sl .true []),(.sl .true []),(.sl .true []),(.int .i64 0),(.str (ByteArray.mk #[])),(.int .i64 0),(.int .i64 0),(.int .i64 0),(.bool .false),(.int .i64 0),(.int .i64 0)] 1 [(0,(.t 32))]),.none⟩,⟨(.some 34),(.appm .any 52 25 272 (.t 28) (.t 33)),.none⟩,⟨(.some 7),(.mv (.t 34)),.none⟩]) .skip)
def B3:C:=.seq (.reg [⟨(.some 35),(.faddr 2 (.t 4)),.none⟩,⟨(.some 36),(.load .any .false 1 (.t 35)),.none⟩,⟨(.some 37),(.faddr 2 (.t 5)),.none⟩,⟨(.some 38),(.load .any .false 1 (.t 37)),.none⟩,⟨(.some 39),(.bin .neq .false (.t 36) (.t 38)),.none⟩,⟨(.some 40),(.mv (.t 39)),.none⟩,⟨(.some 41),(.faddr 3 (.t 4)),(.some (40,.false))⟩,⟨(.some 42),(.load .any .false 1 (.t 41)),(.some (40,.false))⟩,⟨(.some 43),(.faddr 3 (.t 5)),(.some (40,.false))⟩,⟨(.some 44),(.load .any .false 1 (.t 43)),(.some (40,.false))⟩,⟨(.some 45),(.bin .neq .false (.t 42) (.t 44)),(.some (40,.false))⟩,⟨(.some 46),(.pick (.t 40) (.c (.bool .true)) (.t 45)),.none⟩,⟨(.some 47),(.mv (.t 46)),.none⟩,⟨(.some 48),(.faddr 4 (.t 4)),(.some (47,.false))⟩,⟨(.some 49),(.load .any .false 1 (.t 48)),(.some (47,.false))⟩,⟨(.some 50),(.faddr 4 (.t 5)),(.some (47,.false))⟩,⟨(.some 51),(.load .any .false 1 (.t 50)),(.some (47,.false))⟩,⟨(.some 52),(.bin .neq .false (.t 49) (.t 51)),(.some (47,.false))⟩,⟨(.some 53),(.pick (.t 47) (.c (.bool .true)) (.t 52)),.none⟩]) (.cond (.t 53) (.reg [⟨(.some 54),(.mv (.t 7)),.none⟩,⟨(.some 55),(.mv (.t 0)),.none⟩,⟨(.some 56),(.faddr 2 (.t 5)),.none⟩,⟨(.some 57),(.load .any .false 1 (.t 56)),.none⟩,⟨(.some 58),(.faddr 3 (.t 5)),.none⟩,⟨(.some 59),(.load .any .false 1 (.t 58)),.none⟩,⟨(.some 60),(.faddr 4 (.t 5)),.none⟩,⟨(.some 61),(.load .any .false 1 (.t 60)),.none⟩,⟨(.some 62),(.build [(.int .i64 0),(.int .i64 0),(.int .i64 0),(.str (ByteArray.mk #[])),(.int .i64 0),(.str (ByteArray.mk #[])),(.int .i64 0),(.bool .false),(.bool .false),(.int .i64 0),(.bool .false),(.int .i64 0),(.str (ByteArray.mk #[])),(.int .i64 0),(.sl .true []),(.sl .true []),(.sl .true []),(.int .i64 0),(.str (ByteArray.mk #[])),(.int .i64 0),(.int .i64 0),(.int .i64 0),(.bool .false),(.int .i64 0),(.int .i64 0)] [(0,(1,(.c (.int .i64 7)))),(1,(1,(.t 55))),(19,(1,(.t 57))),(20,(1,(.t 59))),(21,(1,(.t 61)))]),.none⟩,⟨(.some 63),(.bsl [(.int .i64 0),(.int .i64 0),(.int .i64 0),(.str (ByteArray.mk #[])),(.int .i64 0),(.str (ByteArray.mk #[])),(.int .i64 0),(.bool .false),(.bool .false),(.int .i64 0),(.bool .false),(.int .i64 0),(.str (ByteArray.mk #[])),(.int .i64 0),(.sl .true []),(.sl .true []),(.sl .true []),(.int .i64 0),(.str (ByteArray.mk #[])),(.int .i64 0),(.int .i64 0),(.int .i64 0),(.bool .false),(.int .i64 0),(.int .i64 0)] 1 [(0,(.t 62))]),.none⟩,⟨(.some 64),(.appm .any 52 25 272 (.t 54) (.t 63)),.none⟩,⟨(.some 7),(.mv (.t 64)),.none⟩]) .skip)
def dfS4:C:=.seq (.reg [⟨(.some 65),(.faddr 9 (.t 4)),.none⟩,⟨(.some 66),(.load .any .false 1 (.t 65)),.none⟩,⟨(.some 67),(.faddr 9 (.t 5)),.none⟩,⟨(.some 68),(.load .any .false 1 (.t 67)),.none⟩,⟨(.some 69),(.bin .neq .true (.t 66) (.t 68)),.none⟩]) (.cond (.t 69) (.reg [⟨(.some 70),(.mv (.t 7)),.none⟩,⟨(.some 71),(.mv (.t 0)),.none⟩,⟨(.some 72),(.faddr 9 (.t 5)),.none⟩,⟨(.some 73),(.load .any .false 1 (.t 72)),.none⟩,⟨(.some 74),(.build [(.int .i64 0),(.int .i64 0),(.int .i64 0),(.str (ByteArray.mk #[])),(.int .i64 0),(.str (ByteArray.mk #[])),(.int .i64 0),(.bool .false),(.bool .false),(.int .i64 0),(.bool .false),(.int .i64 0),(.str (ByteArray.mk #[])),(.int .i64 0),(.sl .true []),(.sl .true []),(.sl .true []),(.int .i64 0),(.str (ByteArray.mk #[])),(.int .i64 0),(.int .i64 0),(.int .i64 0),(.bool .false),(.int .i64 0),(.int .i64 0)] [(0,(1,(.c (.int .i64 8)))),(1,(1,(.t 71))),(22,(1,(.t 73)))]),.none⟩,⟨(.some 75),(.bsl [(.int .i64 0),(.int .i64 0),(.int .i64 0),(.str (ByteArray.mk #[])),(.int .i64 0),(.str (ByteArray.mk #[])),(.int .i64 0),(.bool .false),(.bool .false),(.int .i64 0),(.bool .false),(.int .i64 0),(.str (ByteArray.mk #[])),(.int .i64 0),(.sl .true []),(.sl .true []),(.sl .true []),(.int .i64 0),(.str (ByteArray.mk #[])),(.int .i64 0),(.int .i64 0),(.int .i64 0),(.bool .false),(.int .i64 0),(.int .i64 0)] 1 [(0,(.t 74))]),.none⟩,⟨(.some 76),(.appm .any 52 25 272 (.t 70) (.t 75)),.none⟩,⟨(.some 7),(.mv (.t 76)),.none⟩]) .skip)
def w8:C:=.seq (.reg [⟨(.some 77),(.faddr 7 (.t 4)),.none⟩,⟨(.some 78),(.load .any .false 1 (.t 77)),.none⟩,⟨(.some 79),(.faddr 7 (.t 5)),.none⟩,⟨(.some 80),(.load .any .false 1 (.t 79)),.none⟩,⟨(.some 81),(.bin .neq .false (.t 78) (.t 80)),.none⟩,⟨(.some 82),(.mv (.t 81)),.none⟩,⟨(.some 83),(.faddr 8 (.t 4)),(.some (82,.false))⟩,⟨(.some 84),(.load .any .false 1 (.t 83)),(.some (82,.false))⟩,⟨(.some 85),(.faddr 8 (.t 5)),(.some (82,.false))⟩,⟨(.some 86),(.load .any .false 1 (.t 85)),(.some (82,.false))⟩,⟨(.some 87),(.bin .neq .false (.t 84) (.t 86)),(.some (82,.false))⟩,⟨(.some 88),(.pick (.t 82) (.c (.bool .true)) (.t 87)),.none⟩]) (.cond (.t 88) (.reg [⟨(.some 89),(.mv (.t 7)),.none⟩,⟨(.some 90),(.mv (.t 0)),.none⟩,⟨(.some 91),(.faddr 7 (.t 5)),.none⟩,⟨(.some 92),(.load .any .false 1 (.t 91)),.none⟩,⟨(.some 93),(.faddr 8 (.t 5)),.none⟩,⟨(.some 94),(.load .any .false 1 (.t 93)),.none⟩,⟨(.some 95),(.build [(.int .i64 0),(.int .i64 0),(.int .i64 0),(.str (ByteArray.mk #[])),(.int .i64 0),(.str (ByteArray.mk #[])),(.int .i64 0),(.bool .false),(.bool .false),(.int .i64 0),(.bool .false),(.int .i64 0),(.str (ByteArray.mk #[])),(.int .i64 0),(.sl .true []),(.sl .true []),(.sl .true []),(.int .i64 0),(.str (ByteArray.mk #[])),(.int .i64 0),(.int .i64 0),(.int .i64 0),(.bool .false),(.int .i64 0),(.int .i64 0)] [(0,(1,(.c (.int .i64 9)))),(1,(1,(.t 90))),(23,(1,(.t 92))),(24,(1,(.t 94)))]),.none⟩,⟨(.some 96),(.bsl [(.int .i64 0),(.int .i64 0),(.int .i64 0),(.str (ByteArray.mk #[])),(.int .i64 0),(.str (ByteArray.mk #[])),(.int .i64 0),(.bool .false),(.bool .false),(.int .i64 0),(.bool .false),(.int .i64 0),(.str (ByteArray.mk #[])),(.int .i64 0),(.sl .true []),(.sl .true []),(.sl .true []),(.int .i64 0),(.str (ByteArray.mk #[])),(.int .i64 0),(.int .i64 0),(.int .i64 0),(.bool .false),(.int .i64 0),(.int .i64 0)] 1 [(0,(.t 95))]),.none⟩,⟨(.some 97),(.appm .any 52 25 272 (.t 89) (.t 96)),.none⟩,⟨(.some 7),(.mv (.t 97)),.none⟩]) .skip)
def dfS6:C:=.seq (.reg [⟨(.some 98),(.faddr 6 (.t 4)),.none⟩,⟨(.some 99),(.load .any .false 1 (.t 98)),.none⟩,⟨(.some 100),(.len .false (.t 99)),.none⟩,⟨(.some 101),(.mv (.c (.int .i64 0))),.none⟩]) (.block 0 (.loop BC))
def dfS7:C:=.seq (.reg [⟨(.some 118),(.faddr 6 (.t 5)),.none⟩,⟨(.some 119),(.load .any .false 1 (.t 118)),.none⟩,⟨(.some 120),(.len .false (.t 119)),.none⟩,⟨(.some 121),(.mv (.c (.int .i64 0))),.none⟩]) (.block 2 (.loop zC))
def dfS8:C:=.seq (.reg [⟨(.some 148),(.faddr 6 (.t 5)),.none⟩,⟨(.some 149),(.load .any .false 1 (.t 148)),.none⟩,⟨(.some 150),(.len .false (.t 149)),.none⟩,⟨(.some 151),(.mv (.c (.int .i64 0))),.none⟩]) (.block 4 (.loop CC))
def dfS9:C:=.seq (.reg [⟨(.some 167),(.faddr 5 (.t 4)),.none⟩,⟨(.some 168),(.load .any .false 1 (.t 167)),.none⟩,⟨(.some 169),(.len .false (.t 168)),.none⟩,⟨(.some 170),(.mv (.c (.int .i64 0))),.none⟩]) (.block 6 (.loop XC))
def dfS10:C:=.seq (.reg [⟨(.some 187),(.faddr 5 (.t 5)),.none⟩,⟨(.some 188),(.load .any .false 1 (.t 187)),.none⟩,⟨(.some 189),(.len .false (.t 188)),.none⟩,⟨(.some 190),(.mv (.c (.int .i64 0))),.none⟩]) (.block 8 (.loop lC))
def dfS11:C:=.seq (.reg [⟨(.some 218),(.faddr 5 (.t 5)),.none⟩,⟨(.some 219),(.load .any .false 1 (.t 218)),.none⟩,⟨(.some 220),(.len .false (.t 219)),.none⟩,⟨(.some 221),(.mv (.c (.int .i64 0))),.none⟩]) (.block 10 (.loop ZC))
def dfS12:C:=.seq (.reg [⟨(.some 237),(.mv (.t 7)),.none⟩,⟨(.some 238),(.len .false (.t 237)),.none⟩,⟨(.some 239),(.mv (.c (.int .i64 0))),.none⟩]) (.block 12 (.loop kE))
def dfS13:C:=.reg [⟨(.some 255),(.mv (.t 7)),.none⟩,⟨(.some 6),(.mv (.t 255)),.none⟩]
def dfS14:C:=.ret
theorem dfS_code:PE.code=.seq dfS0 (.seq dfS1 (.seq dfS2 (.seq B3 (.seq dfS4 (.seq w8 (.seq dfS6 (.seq dfS7 (.seq dfS8 (.seq dfS9 (.seq dfS10 (.seq dfS11 (.seq dfS12 (.seq dfS13 dfS14))))))))))))):=rfl
section
variable {rv:RV} {n:Int} {x y:QA} {L:List RB} (hL:L.length<=500) (s:pA) (h:CJ n x y L s) (k:Ex->pA->Option RV)
include rv n x y L hL s h k
theorem df_Name
  (hk:∀ s',CJ n x y (L++if x.name=y.name then [] else [uU n y.name]) s'->k .nrm s'=some rv):dfS2.run (rD sB BA) (IF sB BA) s k=some rv:=by
 obtain ⟨env,mem,nx,obj,gh⟩:=s;obtain ⟨e0,e4,e5,m4,m5,e7,nxt,da⟩:=h;dsimp only at e0 e4 e5 m4 m5 nxt;have M4:=m4;have M5:=m5;simp only [iA] at m4 m5;have ga:RA 272 (L.length + 1)=true:=by rw [sA]; omega
 have gb:=sC L;have wb:(L.map tC).length=L.length:=y7 _;by_cases hc:x.name=y.name
 ·rw [if_pos hc,yz] at hk;have c0:=hc;simp [dfS2,-J,-y6,-y5,y0,-aA,-uA,wA,tA,eA,qA,wA,tA,e0,e4,e5,m4,m5,c0];exact hk _ ⟨by simp [e0],by simp [e4],by simp [e5],M4,M5,e7.of (by simp) (by simp) (fun _ _ _ _=>rfl),by dsimp only; omega,da⟩
 ·rw [if_neg hc] at hk;have c0:=hc;rcases e7 with ⟨rfl,e7⟩ | ⟨h0,d,N,d1,d2,d3,e7,d4⟩
  ·have ga:RA 272 1=true:=by rw [sA]; omega
   dsimp only at e7;simp [dfS2,-J,-y6,-y5,y0,-aA,-uA,wA,tA,eA,qA,wA,tA,e0,e4,e5,e7,m4,m5,c0,ga];refine hk _ ⟨by simp [e0],by simp [e4],by simp [e5],?_,?_,.inr ⟨by simp,34,nx + 1,by omega,by omega,?_,?_,?_⟩,?_,?_⟩
   ·simp [m4,iA]
   ·simp [m5,iA]
   ·simp
   ·simp
   ·simp; rfl
   ·dsimp only; omega
   ·first | (simp; done) | (simp; omega)
  ·dsimp only at d3 e7 d4;have n2:¬ 4=d:=by omega
   have n3:¬ 5=d:=by omega
   have n4:¬ d=0:=by omega
   have li:=pG L;simp [dfS2,-J,-y6,-y5,y0,-aA,-uA,wA,tA,eA,qA,wA,tA,n4,e0,e4,e5,e7,d4,m4,m5,wb,li,c0,ga,gb];refine hk _ ⟨by simp [e0],by simp [e4,n2],by simp [e5,n3],?_,?_,.inr ⟨by simp,34,nx + 1,by omega,by omega,?_,?_,?_⟩,?_,?_⟩
   ·simp [m4,iA,n2]
   ·simp [m5,iA,n3]
   ·simp
   ·simp
   ·simp; rfl
   ·dsimp only; omega
   ·first | (simp; done) | (simp; omega)
theorem df_Bnds
  (hk:∀ s',CJ n x y (L++if x.low=y.low/\x.high=y.high/\x.max=y.max then [] else [tU n y.low y.high y.max]) s'->k .nrm s'=some rv):B3.run (rD sB BA) (IF sB BA) s k=some rv:=by
 obtain ⟨env,mem,nx,obj,gh⟩:=s;obtain ⟨e0,e4,e5,m4,m5,e7,nxt,da⟩:=h;dsimp only at e0 e4 e5 m4 m5 nxt;have M4:=m4;have M5:=m5;simp only [iA] at m4 m5;have ga:RA 272 (L.length + 1)=true:=by rw [sA]; omega
 have gb:=sC L;have wb:(L.map tC).length=L.length:=y7 _;by_cases hc:x.low=y.low/\x.high=y.high/\x.max=y.max
 ·rw [if_pos hc,yz] at hk;obtain ⟨c0,c1,c2⟩:=hc;simp [B3,-J,-y6,-y5,y0,-aA,-uA,wA,tA,eA,qA,wA,tA,e0,e4,e5,m4,m5,c0,c1,c2];exact hk _ ⟨by simp [e0],by simp [e4],by simp [e5],M4,M5,e7.of (by simp) (by simp) (fun _ _ _ _=>rfl),by dsimp only; omega,da⟩
 ·rw [if_neg hc] at hk;by_cases c0:x.low=y.low
  ·skip
   by_cases c1:x.high=y.high
   ·skip
    have c2:¬ x.max=y.max:=fun e=>hc ⟨c0,c1,e⟩
    rcases e7 with ⟨rfl,e7⟩ | ⟨h0,d,N,d1,d2,d3,e7,d4⟩
    ·have ga:RA 272 1=true:=by rw [sA]; omega
     dsimp only at e7;simp [B3,-J,-y6,-y5,y0,-aA,-uA,wA,tA,eA,qA,wA,tA,e0,e4,e5,e7,m4,m5,c0,c1,c2,ga];refine hk _ ⟨by simp [e0],by simp [e4],by simp [e5],?_,?_,.inr ⟨by simp,64,nx + 1,by omega,by omega,?_,?_,?_⟩,?_,?_⟩
     ·simp [m4,iA]
     ·simp [m5,iA]
     ·simp
     ·simp
     ·simp; rfl
     ·dsimp only; omega
     ·first | (simp; done) | (simp; omega)
    ·dsimp only at d3 e7 d4;have n2:¬ 4=d:=by omega
     have n3:¬ 5=d:=by omega
     have n4:¬ d=0:=by omega
     have li:=pG L;simp [B3,-J,-y6,-y5,y0,-aA,-uA,wA,tA,eA,qA,wA,tA,n4,e0,e4,e5,e7,d4,m4,m5,wb,li,c0,c1,c2,ga,gb];refine hk _ ⟨by simp [e0],by simp [e4,n2],by simp [e5,n3],?_,?_,.inr ⟨by simp,64,nx + 1,by omega,by omega,?_,?_,?_⟩,?_,?_⟩
     ·simp [m4,iA,n2]
     ·simp [m5,iA,n3]
     ·simp
     ·simp
     ·simp; rfl
     ·dsimp only; omega
     ·first | (simp; done) | (simp; omega)
   ·skip
    rcases e7 with ⟨rfl,e7⟩ | ⟨h0,d,N,d1,d2,d3,e7,d4⟩
    ·have ga:RA 272 1=true:=by rw [sA]; omega
     dsimp only at e7;simp [B3,-J,-y6,-y5,y0,-aA,-uA,wA,tA,eA,qA,wA,tA,e0,e4,e5,e7,m4,m5,c0,c1,ga];refine hk _ ⟨by simp [e0],by simp [e4],by simp [e5],?_,?_,.inr ⟨by simp,64,nx + 1,by omega,by omega,?_,?_,?_⟩,?_,?_⟩
     ·simp [m4,iA]
     ·simp [m5,iA]
     ·simp
     ·simp
     ·simp; rfl
     ·dsimp only; omega
     ·first | (simp; done) | (simp; omega)
    ·dsimp only at d3 e7 d4;have n2:¬ 4=d:=by omega
     have n3:¬ 5=d:=by omega
     have n4:¬ d=0:=by omega
     have li:=pG L;simp [B3,-J,-y6,-y5,y0,-aA,-uA,wA,tA,eA,qA,wA,tA,n4,e0,e4,e5,e7,d4,m4,m5,wb,li,c0,c1,ga,gb];refine hk _ ⟨by simp [e0],by simp [e4,n2],by simp [e5,n3],?_,?_,.inr ⟨by simp,64,nx + 1,by omega,by omega,?_,?_,?_⟩,?_,?_⟩
     ·simp [m4,iA,n2]
     ·simp [m5,iA,n3]
     ·simp
     ·simp
     ·simp; rfl
     ·dsimp only; omega
     ·first | (simp; done) | (simp; omega)
  ·skip
   rcases e7 with ⟨rfl,e7⟩ | ⟨h0,d,N,d1,d2,d3,e7,d4⟩
   ·have ga:RA 272 1=true:=by rw [sA]; omega
    dsimp only at e7;simp [B3,-J,-y6,-y5,y0,-aA,-uA,wA,tA,eA,qA,wA,tA,e0,e4,e5,e7,m4,m5,c0,ga];refine hk _ ⟨by simp [e0],by simp [e4],by simp [e5],?_,?_,.inr ⟨by simp,64,nx + 1,by omega,by omega,?_,?_,?_⟩,?_,?_⟩
    ·simp [m4,iA]
    ·simp [m5,iA]
    ·simp
    ·simp
    ·simp; rfl
    ·dsimp only; omega
    ·first | (simp; done) | (simp; omega)
   ·dsimp only at d3 e7 d4;have n2:¬ 4=d:=by omega
    have n3:¬ 5=d:=by omega
    have n4:¬ d=0:=by omega
    have li:=pG L;simp [B3,-J,-y6,-y5,y0,-aA,-uA,wA,tA,eA,qA,wA,tA,n4,e0,e4,e5,e7,d4,m4,m5,wb,li,c0,ga,gb];refine hk _ ⟨by simp [e0],by simp [e4,n2],by simp [e5,n3],?_,?_,.inr ⟨by simp,64,nx + 1,by omega,by omega,?_,?_,?_⟩,?_,?_⟩
    ·simp [m4,iA,n2]
    ·simp [m5,iA,n3]
    ·simp
    ·simp
    ·simp; rfl
    ·dsimp only; omega
    ·first | (simp; done) | (simp; omega)
theorem df_Open
  (hk:∀ s',CJ n x y (L++if x.opn=y.opn then [] else [iU n y.opn]) s'->k .nrm s'=some rv):dfS4.run (rD sB BA) (IF sB BA) s k=some rv:=by
 obtain ⟨env,mem,nx,obj,gh⟩:=s;obtain ⟨e0,e4,e5,m4,m5,e7,nxt,da⟩:=h;dsimp only at e0 e4 e5 m4 m5 nxt;have M4:=m4;have M5:=m5;simp only [iA] at m4 m5;have ga:RA 272 (L.length + 1)=true:=by rw [sA]; omega
 have gb:=sC L;have wb:(L.map tC).length=L.length:=y7 _;by_cases hc:x.opn=y.opn
 ·rw [if_pos hc,yz] at hk;have c0:=hc;simp [dfS4,-J,-y6,-y5,y0,-aA,-uA,wA,tA,eA,qA,wA,tA,e0,e4,e5,m4,m5,c0];exact hk _ ⟨by simp [e0],by simp [e4],by simp [e5],M4,M5,e7.of (by simp) (by simp) (fun _ _ _ _=>rfl),by dsimp only; omega,da⟩
 ·rw [if_neg hc] at hk;cases hb:x.opn <;> cases ix:y.opn <;> rw [hb] at m4 hc <;> rw [ix] at m5 hc hk
  all_goals first | exact absurd rfl hc | skip
  all_goals
   rcases e7 with ⟨rfl,e7⟩ | ⟨h0,d,N,d1,d2,d3,e7,d4⟩
   ·have ga:RA 272 1=true:=by rw [sA]; omega
    dsimp only at e7;simp [dfS4,-J,-y6,-y5,y0,-aA,-uA,wA,tA,eA,qA,wA,tA,e0,e4,e5,e7,m4,m5,hc,ga];refine hk _ ⟨by simp [e0],by simp [e4],by simp [e5],?_,?_,.inr ⟨by simp,76,nx + 1,by omega,by omega,?_,?_,?_⟩,?_,?_⟩
    ·simp [m4,hb,iA]
    ·simp [m5,ix,iA]
    ·simp
    ·simp
    ·simp; rfl
    ·dsimp only; omega
    ·first | (simp; done) | (simp; omega)
   ·dsimp only at d3 e7 d4;have n2:¬ 4=d:=by omega
    have n3:¬ 5=d:=by omega
    have n4:¬ d=0:=by omega
    have li:=pG L;simp [dfS4,-J,-y6,-y5,y0,-aA,-uA,wA,tA,eA,qA,wA,tA,n4,e0,e4,e5,e7,d4,m4,m5,wb,li,hc,ga,gb];refine hk _ ⟨by simp [e0],by simp [e4,n2],by simp [e5,n3],?_,?_,.inr ⟨by simp,76,nx + 1,by omega,by omega,?_,?_,?_⟩,?_,?_⟩
    ·simp [m4,hb,iA,n2]
    ·simp [m5,ix,iA,n3]
    ·simp
    ·simp
    ·simp; rfl
    ·dsimp only; omega
    ·first | (simp; done) | (simp; omega)
theorem df_Uses
  (hk:∀ s',CJ n x y (L++if x.key=y.key/\x.elem=y.elem then [] else [pU n y.key y.elem]) s'->k .nrm s'=some rv):w8.run (rD sB BA) (IF sB BA) s k=some rv:=by
 obtain ⟨env,mem,nx,obj,gh⟩:=s;obtain ⟨e0,e4,e5,m4,m5,e7,nxt,da⟩:=h;dsimp only at e0 e4 e5 m4 m5 nxt;have M4:=m4;have M5:=m5;simp only [iA] at m4 m5;have ga:RA 272 (L.length + 1)=true:=by rw [sA]; omega
 have gb:=sC L;have wb:(L.map tC).length=L.length:=y7 _;by_cases hc:x.key=y.key/\x.elem=y.elem
 ·rw [if_pos hc,yz] at hk;obtain ⟨c0,c1⟩:=hc;simp [w8,-J,-y6,-y5,y0,-aA,-uA,wA,tA,eA,qA,wA,tA,e0,e4,e5,m4,m5,c0,c1];exact hk _ ⟨by simp [e0],by simp [e4],by simp [e5],M4,M5,e7.of (by simp) (by simp) (fun _ _ _ _=>rfl),by dsimp only; omega,da⟩
 ·rw [if_neg hc] at hk;by_cases c0:x.key=y.key
  ·skip
   have c1:¬ x.elem=y.elem:=fun e=>hc ⟨c0,e⟩
   rcases e7 with ⟨rfl,e7⟩ | ⟨h0,d,N,d1,d2,d3,e7,d4⟩
   ·have ga:RA 272 1=true:=by rw [sA]; omega
    dsimp only at e7;simp [w8,-J,-y6,-y5,y0,-aA,-uA,wA,tA,eA,qA,wA,tA,e0,e4,e5,e7,m4,m5,c0,c1,ga];refine hk _ ⟨by simp [e0],by simp [e4],by simp [e5],?_,?_,.inr ⟨by simp,97,nx + 1,by omega,by omega,?_,?_,?_⟩,?_,?_⟩
    ·simp [m4,iA]
    ·simp [m5,iA]
    ·simp
    ·simp
    ·simp; rfl
    ·dsimp only; omega
    ·first | (simp; done) | (simp; omega)
   ·dsimp only at d3 e7 d4;have n2:¬ 4=d:=by omega
    have n3:¬ 5=d:=by omega
    have n4:¬ d=0:=by omega
    have li:=pG L;simp [w8,-J,-y6,-y5,y0,-aA,-uA,wA,tA,eA,qA,wA,tA,n4,e0,e4,e5,e7,d4,m4,m5,wb,li,c0,c1,ga,gb];refine hk _ ⟨by simp [e0],by simp [e4,n2],by simp [e5,n3],?_,?_,.inr ⟨by simp,97,nx + 1,by omega,by omega,?_,?_,?_⟩,?_,?_⟩
    ·simp [m4,iA,n2]
    ·simp [m5,iA,n3]
    ·simp
    ·simp
    ·simp; rfl
    ·dsimp only; omega
    ·first | (simp; done) | (simp; omega)
  ·skip
   rcases e7 with ⟨rfl,e7⟩ | ⟨h0,d,N,d1,d2,d3,e7,d4⟩
   ·have ga:RA 272 1=true:=by rw [sA]; omega
    dsimp only at e7;simp [w8,-J,-y6,-y5,y0,-aA,-uA,wA,tA,eA,qA,wA,tA,e0,e4,e5,e7,m4,m5,c0,ga];refine hk _ ⟨by simp [e0],by simp [e4],by simp [e5],?_,?_,.inr ⟨by simp,97,nx + 1,by omega,by omega,?_,?_,?_⟩,?_,?_⟩
    ·simp [m4,iA]
    ·simp [m5,iA]
    ·simp
    ·simp
    ·simp; rfl
    ·dsimp only; omega
    ·first | (simp; done) | (simp; omega)
   ·dsimp only at d3 e7 d4;have n2:¬ 4=d:=by omega
    have n3:¬ 5=d:=by omega
    have n4:¬ d=0:=by omega
    have li:=pG L;simp [w8,-J,-y6,-y5,y0,-aA,-uA,wA,tA,eA,qA,wA,tA,n4,e0,e4,e5,e7,d4,m4,m5,wb,li,c0,ga,gb];refine hk _ ⟨by simp [e0],by simp [e4,n2],by simp [e5,n3],?_,?_,.inr ⟨by simp,97,nx + 1,by omega,by omega,?_,?_,?_⟩,?_,?_⟩
    ·simp [m4,iA,n2]
    ·simp [m5,iA,n3]
    ·simp
    ·simp
    ·simp; rfl
    ·dsimp only; omega
    ·first | (simp; done) | (simp; omega)
end
section
variable {rv:RV} {n:Int} {x y:QA} (hx:x.mems.length<=100) (hy:y.mems.length<=100)
include rv n x y hx hy
theorem dfl_rem {L:List RB} (hL:L.length<=500) (s:pA) (h:CJ n x y L s) (k:Ex->pA->Option RV)
  (hk:∀ s',CJ n x y (L++IL n y.mems x.mems) s'->k .nrm s'=some rv):dfS6.run (rD sB BA) (IF sB BA) s k=some rv:=by
 obtain ⟨env,mem,nx,obj,gh⟩:=s;obtain ⟨e0,e4,e5,m4,m5,e7,nxt,da⟩:=h;dsimp only at e0 e4 e5 m4 m5 nxt;have M4:=m4;have M5:=m5;simp only [iA] at m4 m5;simp [dfS6,-J,-y6,-y5,y0,-aA,-uA,wA,tA,eA,qA,wA,tA,e4,e5,m4,m5];refine df_rem (n:=n) (x:=x) (y:=y) (L:=L) hx hy hL _ ⟨by simp [e0],by simp [e4],by simp [e5],M4,M5,by exact e7.of (by simp) (by simp) (fun _ _ _ _=>rfl),by dsimp only; omega,da⟩ (by simp) (by simp) (by simp) _ (fun s' h'=>?_);simp [-J,-y6,-y5,y0];exact hk s' h'
theorem dfl_chg (sa:∀ m∈x.mems,m.ok) {L:List RB} (hL:L.length<=500) (s:pA) (h:CJ n x y L s) (k:Ex->pA->Option RV)
  (hk:∀ s',CJ n x y (L++WL n x.mems y.mems) s'->k .nrm s'=some rv):dfS7.run (rD sB BA) (IF sB BA) s k=some rv:=by
 obtain ⟨env,mem,nx,obj,gh⟩:=s;obtain ⟨e0,e4,e5,m4,m5,e7,nxt,da⟩:=h;dsimp only at e0 e4 e5 m4 m5 nxt;have M4:=m4;have M5:=m5;simp only [iA] at m4 m5;simp [dfS7,-J,-y6,-y5,y0,-aA,-uA,wA,tA,eA,qA,wA,tA,e4,e5,m4,m5];refine df_chg (n:=n) (x:=x) (y:=y) (L:=L) hx hy sa hL _ ⟨by simp [e0],by simp [e4],by simp [e5],M4,M5,by exact e7.of (by simp) (by simp) (fun _ _ _ _=>rfl),by dsimp only; omega,da⟩ (by simp) (by simp) (by simp) _ (fun s' h'=>?_);simp [-J,-y6,-y5,y0];exact hk s' h'
theorem dfl_add {L:List RB} (hL:L.length<=500) (s:pA) (h:CJ n x y L s) (k:Ex->pA->Option RV)
  (hk:∀ s',CJ n x y (L++QL n x.mems y.mems) s'->k .nrm s'=some rv):dfS8.run (rD sB BA) (IF sB BA) s k=some rv:=by
 obtain ⟨env,mem,nx,obj,gh⟩:=s;obtain ⟨e0,e4,e5,m4,m5,e7,nxt,da⟩:=h;dsimp only at e0 e4 e5 m4 m5 nxt;have M4:=m4;have M5:=m5;simp only [iA] at m4 m5;simp [dfS8,-J,-y6,-y5,y0,-aA,-uA,wA,tA,eA,qA,wA,tA,e4,e5,m4,m5];refine df_add (n:=n) (x:=x) (y:=y) (L:=L) hx hy hL _ ⟨by simp [e0],by simp [e4],by simp [e5],M4,M5,by exact e7.of (by simp) (by simp) (fun _ _ _ _=>rfl),by dsimp only; omega,da⟩ (by simp) (by simp) (by simp) _ (fun s' h'=>?_);simp [-J,-y6,-y5,y0];exact hk s' h'
end
section
variable {rv:RV} {n:Int} {x y:QA} (hx:x.syms.length<=100) (hy:y.syms.length<=100) {L:List RB} (hL:L.length<=500) (s:pA) (h:CJ n x y L s) (k:Ex->pA->Option RV)
include rv n x y hx hy L hL s h k
theorem dfl_drp
  (hk:∀ s',CJ n x y (L++EL n y.syms x.syms) s'->k .nrm s'=some rv):dfS9.run (rD sB BA) (IF sB BA) s k=some rv:=by
 obtain ⟨env,mem,nx,obj,gh⟩:=s;obtain ⟨e0,e4,e5,m4,m5,e7,nxt,da⟩:=h;dsimp only at e0 e4 e5 m4 m5 nxt;have M4:=m4;have M5:=m5;simp only [iA] at m4 m5;simp [dfS9,-J,-y6,-y5,y0,-aA,-uA,wA,tA,eA,qA,wA,tA,e4,e5,m4,m5];refine df_drp (n:=n) (x:=x) (y:=y) (L:=L) hx hy hL _ ⟨by simp [e0],by simp [e4],by simp [e5],M4,M5,by exact e7.of (by simp) (by simp) (fun _ _ _ _=>rfl),by dsimp only; omega,da⟩ (by simp) (by simp) (by simp) _ (fun s' h'=>?_);simp [-J,-y6,-y5,y0];exact hk s' h'
theorem dfl_syn
  (hk:∀ s',CJ n x y (L++PL n x.syms y.syms) s'->k .nrm s'=some rv):dfS10.run (rD sB BA) (IF sB BA) s k=some rv:=by
 obtain ⟨env,mem,nx,obj,gh⟩:=s;obtain ⟨e0,e4,e5,m4,m5,e7,nxt,da⟩:=h;dsimp only at e0 e4 e5 m4 m5 nxt;have M4:=m4;have M5:=m5;simp only [iA] at m4 m5;simp [dfS10,-J,-y6,-y5,y0,-aA,-uA,wA,tA,eA,qA,wA,tA,e4,e5,m4,m5];refine df_syn (n:=n) (x:=x) (y:=y) (L:=L) hx hy hL _ ⟨by simp [e0],by simp [e4],by simp [e5],M4,M5,by exact e7.of (by simp) (by simp) (fun _ _ _ _=>rfl),by dsimp only; omega,da⟩ (by simp) (by simp) (by simp) _ (fun s' h'=>?_);simp [-J,-y6,-y5,y0];exact hk s' h'
theorem dfl_sya
  (hk:∀ s',CJ n x y (L++OL n x.syms y.syms) s'->k .nrm s'=some rv):dfS11.run (rD sB BA) (IF sB BA) s k=some rv:=by
 obtain ⟨env,mem,nx,obj,gh⟩:=s;obtain ⟨e0,e4,e5,m4,m5,e7,nxt,da⟩:=h;dsimp only at e0 e4 e5 m4 m5 nxt;have M4:=m4;have M5:=m5;simp only [iA] at m4 m5;simp [dfS11,-J,-y6,-y5,y0,-aA,-uA,wA,tA,eA,qA,wA,tA,e4,e5,m4,m5];refine df_sya (n:=n) (x:=x) (y:=y) (L:=L) hx hy hL _ ⟨by simp [e0],by simp [e4],by simp [e5],M4,M5,by exact e7.of (by simp) (by simp) (fun _ _ _ _=>rfl),by dsimp only; omega,da⟩ (by simp) (by simp) (by simp) _ (fun s' h'=>?_);simp [-J,-y6,-y5,y0];exact hk s' h'
end
section
variable {sz:Nat} {l:List (List AV)} (h:AA sz l=true) {k:Nat} {c:List AV} (hk:l[k]?=some c) {o z:Nat} (ho:o + z<=sz)
include sz l h k c hk o z ho
theorem wS:((xA l).drop (k * sz + o)).take z=((c.drop o).take z).map (⟨·,.no⟩)/\k * sz + o + z<=(xA l).length:=by
 have ba:=(yh.1 hk).1;have hc:=FM h hk;have hd:l.drop k=c :: l.drop (k + 1):=by rw [yj ba,(yh.1 hk).2]
 refine ⟨?_,?_⟩
 ·rw [<- List.drop_drop,JN h (by omega),hd,jL,List.drop_append_of_le_length (by simp; omega),List.take_append_of_le_length (by simp; omega),List.map_take,List.map_drop]
 ·rw [tN h];have:(k + 1) * sz<=l.length * sz:=Y02 _ ba;rw [yK] at this;omega
theorem KP:aA true z (k * sz + o) (xA l)=some ⟨.agg ((c.drop o).take z),.no⟩:=by
 obtain ⟨h1,h2⟩:=wS h hk ho;simp only [aA,if_true];rw [if_pos h2,h1];simp [Function.comp_def]
theorem KN (a:An):uA true z (k * sz + o) (xA l) (.agg ((c.drop o).take z)) a=some (xA l):=by
 obtain ⟨h1,h2⟩:=wS h hk ho;have hc:=FM h hk;simp only [uA,if_true];rw [if_pos ⟨by rw [ym,yC]; omega,h2⟩,<- h1];congr 1;have e1:(xA l).drop (k * sz + o + z)=((xA l).drop (k * sz + o)).drop z:=by rw [List.drop_drop]
 rw [e1,yo,Y05,Y05]
end
theorem JX (e:RB):((tC e).drop 9).take 8=dB e.mem.dflt:=by
 rw [WB];rfl
section
variable {rv:RV} {n:Int} {x y:QA} {D:List RB} (kc:∀ e∈D,e.mem.dflt.lay) (s:pA) (h:CJ n x y D s)
include rv n x y D kc s h
theorem df_fin (e_n:(s.env 238).v=.int .i64 D.length) (e_c:(s.env 239).v=.int .i64 0) (k:Ex->pA->Option RV)
  (hk:∀ s',CJ n x y D s'->k (.exit 12) s'=some rv):zF sB BA kE s k=some rv:=by
 refine QE D.length (fun i s=>(s.env 238).v=.int .i64 D.length/\(s.env 239).v=.int .i64 i/\CJ n x y D s) (fun e s=>e=.exit 12/\CJ n x y D s) (fun i hi s k h ih hk=>?_) _ _ ⟨e_n,e_c,h⟩ (fun e s h=>by obtain ⟨rfl,h⟩:=h; exact hk _ h);obtain ⟨e_n,e_c,hI⟩:=h;obtain ⟨env,mem,nx,obj,gh⟩:=s;obtain ⟨e0,e4,e5,m4,m5,e7,nxt,da⟩:=hI;dsimp only at e_n e_c e0 e4 e5 m4 m5 nxt;refine gA ?_;by_cases ba:i<D.length
 ·have ea:(i:Int)<D.length:=by omega
  have hw:=eB (i:=i);obtain ⟨q,hq⟩:∃ q,D[i]?=some q:=⟨_,yg ba⟩;have g1:(D.map tC)[i]?=some (tC q):=by rw [yc,hq]; rfl
  rcases e7 with ⟨rfl,e7⟩ | ⟨h0,d,N,d1,d2,d3,e7,d4⟩
  ·simp at ba
  ·dsimp only at d3 e7 d4;have uf:=KP (sC D) g1 (o:=9) (z:=8) (by omega);have pf:=KN (sC D) g1 (o:=9) (z:=8) (by omega) .no;rw [JX] at uf pf;have hc:=DX _ q.mem.dflt (Nat.lt_succ_self _) (kc q (yD hq));have se:=JM q.mem.dflt;have bg:=cQ d4;simp only [pQ] at hc;generalize ja:xA (D.map tC)=row at *
   simp [kE,-J,-y6,-y5,y0,-aA,-uA,wA,tA,eA,qA,e_n,e_c,e7,d4,ba,ea,hw,uf,se,hc,pf,bg];refine ih ba _ ⟨by simp [e_n],by simp,⟨by simp [e0],by simp [e4],by simp [e5],m4,m5,.inr ⟨h0,d,N,d1,d2,by dsimp only; omega,by simp [e7],by rw [ja]; exact d4⟩,by dsimp only; omega,da⟩⟩
 ·have ea:¬ (i:Int)<D.length:=by omega
  simp [kE,-J,-y6,-y5,y0,-aA,-uA,wA,tA,eA,qA,e_c,e_n,ea];exact hk _ _ ⟨rfl,by simp [e0],by simp [e4],by simp [e5],m4,m5,by exact e7.of (by simp) (by simp) (fun _ _ _ _=>rfl),by dsimp only; omega,da⟩
theorem dfl_fin (k:Ex->pA->Option RV)
  (hk:∀ s',CJ n x y D s'->k .nrm s'=some rv):dfS12.run (rD sB BA) (IF sB BA) s k=some rv:=by
 obtain ⟨env,mem,nx,obj,gh⟩:=s;obtain ⟨e0,e4,e5,m4,m5,e7,nxt,da⟩:=h;dsimp only at e0 e4 e5 m4 m5 nxt;have e7':=e7;have wb:(D.map tC).length=D.length:=y7 _;rcases e7 with ⟨rfl,e7⟩ | ⟨h0,d,N,d1,d2,d3,e7,d4⟩
 ·dsimp only at e7;simp [dfS12,-J,-y6,-y5,y0,-aA,-uA,wA,tA,eA,qA,e7];refine df_fin (n:=n) (x:=x) (y:=y) (D:=[]) kc _ ⟨by simp [e0],by simp [e4],by simp [e5],m4,m5,by exact e7'.of (by simp [e7]) (by simp) (fun _ _ _ _=>rfl),by dsimp only; omega,da⟩ (by simp) (by simp) _ (fun s' h'=>?_);simp [-J,-y6,-y5,y0];exact hk s' h'
 ·dsimp only at d3 e7 d4;simp [dfS12,-J,-y6,-y5,y0,-aA,-uA,wA,tA,eA,qA,e7];refine df_fin (n:=n) (x:=x) (y:=y) (D:=D) kc _ ⟨by simp [e0],by simp [e4],by simp [e5],m4,m5,by exact e7'.of (by simp) (by simp) (fun _ _ _ _=>rfl),by dsimp only; omega,da⟩ (by simp) (by simp) _ (fun s' h'=>?_);simp [-J,-y6,-y5,y0];exact hk s' h'
end
theorem difL_lay {n:Int} {x y:QA} (h:∀ m∈y.mems,m.dflt.lay):∀ e∈AS n x y,e.mem.dflt.lay:=by
 have hz:Vl.zero.lay:=by simp [Vl.zero,Vl.lay,Vl.lays]
 intro e he;simp only [AS,tW,yq] at he;rcases he with ((he | he | he | he) | he | he | he | he | he | he)
 ·split at he
  ·simp at he
  ·simp at he; subst he; exact hz
 ·split at he
  ·simp at he
  ·simp at he; subst he; exact hz
 ·split at he
  ·simp at he
  ·simp at he; subst he; exact hz
 ·split at he
  ·simp at he
  ·simp at he; subst he; exact hz
 ·simp only [IL,yV] at he;obtain ⟨m,_,he⟩:=he;split at he
  ·simp at he; subst he; exact hz
  ·simp at he
 ·simp only [WL,yV] at he;obtain ⟨m,hm,he⟩:=he;unfold SM at he;split at he
  ·split at he
   ·simp at he; subst he; exact h m hm
   ·simp at he
  ·simp at he
 ·simp only [QL,yV] at he;obtain ⟨m,hm,he⟩:=he;split at he
  ·simp at he; subst he; exact h m hm
  ·simp at he
 ·simp only [EL,yV] at he;obtain ⟨m,_,he⟩:=he;split at he
  ·simp at he; subst he; exact hz
  ·simp at he
 ·simp only [PL,yV] at he;obtain ⟨m,hm,he⟩:=he;unfold sN at he;split at he
  ·split at he
   ·simp at he; subst he; exact hz
   ·simp at he
  ·simp at he
 ·simp only [OL,yV] at he;obtain ⟨m,hm,he⟩:=he;split at he
  ·simp at he; subst he; exact hz
  ·simp at he
theorem differ_ev (n:Int) (x y:QA) (h1:x.mems.length<=40) (h2:y.mems.length<=40) (h3:x.syms.length<=40) (h4:y.syms.length<=40) (sa:∀ m∈x.mems,m.ok) (kc:∀ m∈y.mems,m.dflt.lay):pQ 43 [.int .i64 n,.agg (iA x),.agg (iA y)] (wH (AS n x y)):=by
 refine wC PE rfl rfl ?_;rw [dfS_code];have l1:=JJ (x.name=y.name) (uU n y.name);have l2:=JJ (x.low=y.low/\x.high=y.high/\x.max=y.max) (tU n y.low y.high y.max);have l3:=JJ (x.opn=y.opn) (iU n y.opn);have l4:=JJ (x.key=y.key/\x.elem=y.elem) (pU n y.key y.elem);have l5:=xZ n y.mems x.mems;have l6:=SX n x.mems y.mems;have l7:=mX n x.mems y.mems;have l8:=HX n y.syms x.syms;have l9:=SZ n x.syms y.syms;have t1:(iA x).length=10:=rfl;have t2:(iA y).length=10:=rfl;simp only [MG];simp [dfS0,dfS1,-J,-y6,-y5,y0,t1,t2];refine df_Name (n:=n) (x:=x) (y:=y) (L:=[]) (by simp) _ ⟨by simp,by simp,by simp,by simp,by simp,.inl ⟨rfl,by simp⟩,by simp,by simp⟩ _ (fun s h=>?_);rw [yW] at h;rw [JC,MG];refine df_Bnds (by omega) s h _ (fun s h=>?_);rw [JC,MG];refine df_Open (by simp only [yb]; omega) s h _ (fun s h=>?_);rw [JC,MG];refine df_Uses (by simp only [yb]; omega) s h _ (fun s h=>?_);rw [JC,MG];refine dfl_rem (by omega) (by omega) (by simp only [yb]; omega) s h _ (fun s h=>?_);rw [JC,MG];refine dfl_chg (by omega) (by omega) sa (by simp only [yb]; omega) s h _ (fun s h=>?_);rw [JC,MG];refine dfl_add (by omega) (by omega) (by simp only [yb]; omega) s h _ (fun s h=>?_);rw [JC,MG];refine dfl_drp (by omega) (by omega) (by simp only [yb]; omega) s h _ (fun s h=>?_);rw [JC,MG];refine dfl_syn (by omega) (by omega) (by simp only [yb]; omega) s h _ (fun s h=>?_);rw [JC,MG];refine dfl_sya (by omega) (by omega) (by simp only [yb]; omega) s h _ (fun s h=>?_);rw [JC,MG];have hd:AS n x y=tW n x y++(IL n y.mems x.mems++(WL n x.mems y.mems++(QL n x.mems y.mems++(EL n y.syms x.syms++(PL n x.syms y.syms++OL n x.syms y.syms))))):=rfl;rw [tW,yo,yo,yo] at hd;simp only [yo] at h;rw [<- hd] at h;have hly:=difL_lay (n:=n) (x:=x) kc;generalize AS n x y=D at *
 refine dfl_fin hly s h _ (fun s h=>?_);have hr:PE.res=[.tmp 6]:=rfl;obtain ⟨env,mem,nx,obj,gh⟩:=s;rcases h.e7 with ⟨rfl,e7⟩ | ⟨h0,d,N,d1,d2,d3,e7,d4⟩
 ·dsimp only at e7;simp [dfS13,dfS14,-J,-y6,-y5,y0,-aA,-uA,wA,tA,eA,qA,e7,hr,wH]
 ·dsimp only at d3 e7 d4;have li:=pG D;have he:D.isEmpty=false:=by cases D with | nil=>exact absurd rfl h0 | cons=>rfl
  simp [dfS13,dfS14,-J,-y6,-y5,y0,-aA,-uA,wA,tA,eA,qA,e7,d4,hr,li,wH,he]
section
section
variable {z:Nat}
theorem blk_get:∀ {B:List (List rA)},(∀ b∈B,b.length=z)->∀ {i:Nat} {b:List rA},B[i]?=some b->∀ {j:Nat},j<z->B.flatten[i * z + j]?=b[j]?
 | [],_,i,b,h,_,_=>by cases h
 | c :: B,hB,i,b,h,j,hj=>by
  have hc:=hB c (yp ..);cases i with
  | zero =>
   have:c=b:=by simpa using h
   subst this;rw [yv,Nat.zero_mul,yr,yL (by omega)]
  | succ i =>
   have h':B[i]?=some b:=by simpa using h
   rw [yv,yE (by rw [hc,yK]; omega),hc,show (i + 1) * z + j - z=i * z + j from by rw [yK]; omega];exact blk_get (fun b hb=>hB b (yG _ hb)) h' hj
theorem rP:∀ {B:List (List rA)},(∀ b∈B,b.length=z)->∀ {i:Nat} {b:List rA},B[i]?=some b->(B.flatten.drop (i * z)).take z=b/\i * z + z<=B.flatten.length
 | [],_,i,b,h=>by cases h
 | c :: B,hB,i,b,h=>by
  have hc:=hB c (yp ..);cases i with
  | zero =>
   have:c=b:=by simpa using h
   subst this;rw [yv,Nat.zero_mul,yY,List.take_append_of_le_length (by omega),yS (by omega)];exact ⟨rfl,by rw [yb]; omega⟩
  | succ i =>
   have h':B[i]?=some b:=by simpa using h
   obtain ⟨h1,h2⟩:=rP (fun b hb=>hB b (yG _ hb)) h';rw [yv,List.drop_append,List.drop_of_length_le (by rw [hc,yK]; omega),yW,hc,show (i + 1) * z - z=i * z from by rw [yK]; omega];exact ⟨h1,by rw [yb,yK]; omega⟩
theorem X3:∀ {B:List (List rA)},(∀ b∈B,b.length=z)->∀ {i:Nat} {b:List rA},B[i]?=some b->∀ {j:Nat},j<z->∀ x:rA,B.flatten.set (i * z + j) x=(B.set i (b.set j x)).flatten
 | [],_,i,b,h,_,_,_=>by cases h
 | c :: B,hB,i,b,h,j,hj,x=>by
  have hc:=hB c (yp ..);cases i with
  | zero =>
   have:c=b:=by simpa using h
   subst this;rw [yv,Nat.zero_mul,yr,List.set_append_left _ _ (by omega),List.set_cons_zero,yv]
  | succ i =>
   have h':B[i]?=some b:=by simpa using h
   rw [yv,List.set_append_right _ _ (by rw [hc,yK]; omega),hc,show (i + 1) * z + j - z=i * z + j from by rw [yK]; omega,X3 (fun b hb=>hB b (yG _ hb)) h' hj x,List.set_cons_succ,yv]
end
def OB (t:QA) (w:rA × rA):List rA:=[⟨.int .i64 t.kind,.no⟩,⟨.str t.name,.no⟩,⟨.int .i64 t.low,.no⟩,⟨.int .i64 t.high,.no⟩,⟨.int .i64 t.max,.no⟩,w.1,w.2,⟨.int .i64 t.key,.no⟩,⟨.int .i64 t.elem,.no⟩,⟨.bool t.opn,.no⟩]
def d9 (L:List QA) (W:List (rA × rA)):List (List rA):=List.zipWith OB L W
def OA (L:List QA) (W:List (rA × rA)):List rA:=(d9 L W).flatten
theorem bQ (L:List QA) (W:List (rA × rA)):∀ b∈d9 L W,b.length=10:=fun b hb=>by
 obtain ⟨i,hi,rfl⟩:=List.mem_iff_getElem.1 hb;simp [d9,OB]
section
variable {L:List QA} {W:List (rA × rA)} {i:Nat} {t:QA} {w:rA × rA} (h1:L[i]?=some t) (h2:W[i]?=some w)
include L W i t w h1 h2
theorem Q5:(d9 L W)[i]?=some (OB t w):=by
 unfold d9;rw [List.getElem?_zipWith,h1,h2]
theorem ND {j:Nat} (hj:j<10):(OA L W)[i * 10 + j]?=(OB t w)[j]?:=blk_get (bQ L W) (Q5 h1 h2) hj
theorem bL:aA true 10 (i * 10) (OA L W)=some ⟨.agg ((OB t w).map (·.v)),.no⟩:=by
 obtain ⟨g1,g2⟩:=rP (bQ L W) (Q5 h1 h2);simp only [aA,if_true];rw [show (OA L W)=(d9 L W).flatten from rfl,if_pos g2,g1]
end
section
variable {L:List QA} {W:List (rA × rA)} {i:Nat} {t t':QA} {w w':rA × rA} (h1:L[i]?=some t) (h2:W[i]?=some w) {j:Nat} (hj:j<10)
include L W i t t' w w' h1 h2 j hj
theorem T3 {x:rA} (hx:(OB t w).set j x=OB t' w'):(OA L W).set (i * 10 + j) x=OA (L.set i t') (W.set i w'):=by
 unfold OA;rw [X3 (bQ L W) (Q5 h1 h2) hj,hx];congr 1;refine List.ext_getElem? fun k=>?_
 rw [List.getElem?_set];unfold d9;rw [List.length_zipWith,List.getElem?_zipWith,List.getElem?_zipWith,List.getElem?_set,List.getElem?_set];have uf:=(yh.1 h1).1;have rm:=(yh.1 h2).1;split
 ·rename_i e;subst e;simp [uf,rm];omega
 ·rfl
theorem iD {x:AV} {a:An} (hl:x.leaf=true) (hx:(OB t w).set j ⟨x,a⟩=OB t' w'):uA false 1 (i * 10 + j) (OA L W) x a=some (OA (L.set i t') (W.set i w')):=by
 have ba:i * 10 + j<(OA L W).length:=by
  have:=(rP (bQ L W) (Q5 h1 h2)).2;unfold OA;omega
 simp only [uA,yI,if_false];rw [if_pos ⟨hl,ba⟩,T3 h1 h2 hj hx]
end
def wT (t:QA):rA × rA:=(⟨.sl t.sn (t.syms.map jA),.no⟩,⟨.sl t.mn (t.mems.map fA),.no⟩)
theorem tpRow_imm (L:List QA):OA L (L.map wT)=xA (L.map iA):=by
 induction L with
 | nil=>rfl
 | cons t L ih =>
  rw [yk,yk,jL,<- ih];rfl
def KS:List Nat:=[26,34,68,89,148,169]
def MD (mem:Nat->Nat->Option (List rA)) (nx:Nat) (x:rA) (z:Nat) (l:List (List AV)):Prop :=
 (l=[]/\∃ b,x=⟨.sl b [],.ex⟩)\/∃ t n,x=⟨.ref t n z 0 l.length l.length,.no⟩/\t∈KS/\n<nx/\mem t n=some (xA l)
def LJ (x:rA):List (Nat × Nat):=match x.v with
 | .ref t n _ _ _ _=>[(t,n)]
 | _=>[]
def AI (w:rA × rA):List (Nat × Nat):=LJ w.1++LJ w.2
structure nX (L:List QA) (W:List (rA × rA)) (N0 nx:Nat) (V0:AV) (mem:Nat->Nat->Option (List rA)):Prop where
 len:W.length=L.length
 v0:(L=[]/\∃ b,V0=.sl b [])\/(L≠[]/\V0=.ref 9 N0 10 0 L.length L.length/\mem 9 N0=some (OA L W)/\N0<nx)
 cell:∀ (i:Nat) (t:QA) (w:rA × rA),L[i]?=some t->W[i]?=some w->MD mem nx w.1 2 (t.syms.map jA)/\MD mem nx w.2 13 (t.mems.map fA)
 nd:(W.flatMap AI).Nodup
def I4:AV->Bool
 | .ptr t _ _ | .ref t _ _ _ _ _ | .mp t _=>!KS.contains t
 | .agg _ | .tup _ | .fn ..=>false
 | _=>true
def okV1:AV->Bool
 | .agg cs=>cs.all I4
 | v=>I4 v
def okV:AV->Bool
 | .agg cs=>cs.all I4
 | .tup vs=>vs.all okV1
 | .fn _ vs=>vs.all I4
 | v=>I4 v
theorem EU {t n:Nat} (ht:t∈KS) {v:AV} (h:I4 v=true):v.kill0 t n=v:=by
 have hn:∀ t',(!KS.contains t')=true->¬ (t'=t/\n=n):=fun t' h' e=>by
  rw [e.1] at h';simp [List.contains_iff_mem,ht] at h'
 cases v <;> simp only [I4] at h <;> simp only [AV.kill0]
 all_goals rw [if_neg]
 all_goals intro e; exact hn _ h ⟨e.1,rfl⟩
theorem PR {t n:Nat} (ht:t∈KS):∀ {l:List AV},l.all I4=true->l.map (AV.kill0 t n)=l
 | [],_=>rfl
 | v :: r,h=>by
  rw [List.all_cons,ye] at h;rw [yk,EU ht h.1,PR ht h.2]
theorem okV1_kill {t n:Nat} (ht:t∈KS) {v:AV} (h:okV1 v=true):v.kill1 t n=v:=by
 cases v <;> simp only [okV1] at h <;> simp only [AV.kill1]
 all_goals first | exact EU ht h | (rw [PR ht h])
theorem DY {t n:Nat} (ht:t∈KS):∀ {l:List AV},l.all okV1=true->l.map (AV.kill1 t n)=l
 | [],_=>rfl
 | v :: r,h=>by
  rw [List.all_cons,ye] at h;rw [yk,okV1_kill ht h.1,DY ht h.2]
theorem H6 {t n:Nat} (ht:t∈KS) {v:AV} (h:okV v=true):v.kill t n=v:=by
 cases v <;> simp only [okV] at h <;> simp only [AV.kill]
 all_goals first | exact EU ht h | (rw [PR ht h]) | (rw [DY ht h])
structure fN (N0:Nat) (s0 s:pA):Prop where
 gh:∀ j,okV (s0.gh j).v=true->s.gh j=s0.gh j
 mem:∀ t n r,n<s0.next->t ∉ KS->¬ (t=9/\n=N0)->s0.mem t n=some r->(∀ x∈r,okV x.v=true)->s.mem t n=some r
 next:s0.next<=s.next
theorem fN.set {N0:Nat} {s0:pA} {env:Nat->rA} {mem:Nat->Nat->Option (List rA)} {nx nx':Nat} {obj:Nat->Nat->Option AV} {gh:Nat->rA} (h:fN N0 s0 ⟨env,mem,nx,obj,gh⟩) {t n:Nat} {r:List rA} (hn:s0.next<=n\/t∈KS\/(t=9/\n=N0)) (hx:nx<=nx') {env':Nat->rA}:fN N0 s0 ⟨env',CO mem t n r,nx',obj,gh⟩ :=
 ⟨h.gh,fun t' n' r' hl hk h9 he hr=>by
  show CO mem t n r t' n'=_;rw [kA,if_neg (fun e=>by
   rw [e.1] at hk h9;rw [e.2] at hl h9;rcases hn with hn | hn | hn
   ·omega
   ·exact hk hn
   ·exact h9 hn)]
  exact h.mem t' n' r' hl hk h9 he hr,yB h.next hx⟩
theorem fN.env {N0:Nat} {s0:pA} {env:Nat->rA} {mem:Nat->Nat->Option (List rA)} {nx nx':Nat} {obj:Nat->Nat->Option AV} {gh:Nat->rA} (h:fN N0 s0 ⟨env,mem,nx,obj,gh⟩) (hx:nx<=nx') {env':Nat->rA}:fN N0 s0 ⟨env',mem,nx',obj,gh⟩ :=
 ⟨h.gh,h.mem,yB h.next hx⟩
theorem fN.kill {N0:Nat} {s0:pA} {env:Nat->rA} {mem:Nat->Nat->Option (List rA)} {nx nx':Nat} {obj:Nat->Nat->Option AV} {gh:Nat->rA} (h:fN N0 s0 ⟨env,mem,nx,obj,gh⟩) {t n:Nat} (ht:t∈KS) (hx:nx<=nx') {env':Nat->rA}:fN N0 s0 ⟨env',RY t n mem,nx',obj,WY t n gh⟩ :=
 ⟨fun j hl=>by
  show (gh j).kill t n=_;have e:gh j=s0.gh j:=h.gh j hl;rw [e];show (⟨(s0.gh j).v.kill t n,(s0.gh j).a⟩:rA)=s0.gh j;rw [H6 ht hl],fun t' n' r' hl hk h9 he hr=>by
  show RY t n mem t' n'=_;rw [OJ,if_neg (fun e:t'=t/\n'=n=>hk (e.1 ▸ ht))];have hm:mem t' n'=some r':=h.mem t' n' r' hl hk h9 he hr;rw [hm];have:r'.map (rA.kill t n)=r'.map id:=yH fun x hx=>by
   show (⟨x.v.kill t n,x.a⟩:rA)=x;rw [H6 ht (hr x hx)]
  rw [List.map_id] at this;exact congrArg some this,yB h.next hx⟩
theorem fN.trans {N0:Nat} {s0 s1 s2:pA} (h1:fN N0 s0 s1) (h2:fN N0 s1 s2):fN N0 s0 s2 :=
 ⟨fun j h=>by rw [h2.gh j (by rw [h1.gh j h]; exact h),h1.gh j h],fun t n r hl hk h9 hm hr=>h2.mem t n r (Nat.lt_of_lt_of_le hl h1.next) hk h9 (h1.mem t n r hl hk h9 hm hr) hr,yB h1.next h2.next⟩
end
theorem memC_dflt (m:fB):((fA m).drop 5).take 8=dB m.dflt:=by
 rw [WB];rfl
theorem nd_set {W:List (rA × rA)} {i:Nat} {w w':rA × rA} (hW:W[i]?=some w) (wd:(W.flatMap AI).Nodup) (h1:(AI w').Nodup) (h2:∀ p∈AI w',p∈AI w\/∀ v∈W,p ∉ AI v):((W.set i w').flatMap AI).Nodup:=by
 have hi:=(yh.1 hW).1;have hsp:W=W.take i++w :: W.drop (i + 1):=by
  have:=(yh.1 hW).2;rw [<- this,<- yj hi,Y05]
 have hse:W.set i w'=W.take i++w' :: W.drop (i + 1):=by
  rw [List.set_eq_take_append_cons_drop,if_pos hi]
 rw [hsp,List.flatMap_append,List.flatMap_cons] at wd;rw [hse,List.flatMap_append,List.flatMap_cons];obtain ⟨a1,a2,a3⟩:=yN.1 wd;obtain ⟨b1,b2,b3⟩:=yN.1 a2;refine yN.2 ⟨a1,yN.2 ⟨h1,b2,fun p hp q hq e=>?_⟩,fun p hp q hq e=>?_⟩
 ·subst e;rcases h2 p hp with h | h
  ·exact b3 p h p hq rfl
  ·obtain ⟨v,hv,hpv⟩:=yV.1 hq;exact h v (List.mem_of_mem_drop hv) hpv
 ·subst e;rcases yq.1 hq with hq | hq
  ·rcases h2 p hq with h | h
   ·exact a3 p hp p (yq.2 (.inl h)) rfl
   ·obtain ⟨v,hv,hpv⟩:=yV.1 hp;exact h v (List.mem_of_mem_take hv) hpv
  ·exact a3 p hp p (yq.2 (.inr hq)) rfl
theorem cp_in {rv:RV} {L:List QA} {W:List (rA × rA)} {N0 i:Nat} {t:QA} {w:rA × rA} {v2 v3 v4 v13 v14:AV} (hL:L[i]?=some t) (hW:W[i]?=some w) (hn:t.mems.length<=100000) (kc:∀ m∈t.mems,m.dflt.lay) (s0:pA) (m9:s0.mem 9 N0=some (OA L W)) (hc:MD s0.mem s0.next w.2 13 (t.mems.map fA))
  (e2:(s0.env 2).v=v2) (e3:(s0.env 3).v=v3) (e4:(s0.env 4).v=v4) (e13:(s0.env 13).v=v13) (e14:(s0.env 14).v=v14) (e5:(s0.env 5).v=.ptr 9 N0 (i * 10)) (dz:(s0.env 41).v=.int .i64 t.mems.length) (e42:(s0.env 42).v=.int .i64 0) (k:Ex->pA->Option RV)
  (hk:∀ s',(s'.env 2).v=v2->(s'.env 3).v=v3->(s'.env 4).v=v4->(s'.env 13).v=v13->(s'.env 14).v=v14->s'.mem=s0.mem->s'.gh=s0.gh->s0.next<=s'.next->k (.exit 2) s'=some rv):zF sB BA mF s0 k=some rv:=by
 refine QE t.mems.length (fun r s=>(s.env 2).v=v2/\(s.env 3).v=v3/\(s.env 4).v=v4/\(s.env 13).v=v13/\(s.env 14).v=v14/\s.mem=s0.mem/\s.gh=s0.gh/\s0.next<=s.next/\(s.env 5).v=.ptr 9 N0 (i * 10)/\(s.env 41).v=.int .i64 t.mems.length/\(s.env 42).v=.int .i64 r)
  (fun e s=>e=.exit 2/\(s.env 2).v=v2/\(s.env 3).v=v3/\(s.env 4).v=v4/\(s.env 13).v=v13/\(s.env 14).v=v14/\s.mem=s0.mem/\s.gh=s0.gh/\s0.next<=s.next) (fun r hr s k h ih hk=>?_) _ _ ⟨e2,e3,e4,e13,e14,rfl,rfl,yf _,e5,dz,e42⟩ (fun e s h=>by obtain ⟨rfl,h1,h2,h3,h4,h5,h6,h7,h8⟩:=h; exact hk _ h1 h2 h3 h4 h5 h6 h7 h8)
 clear e2 e3 e4 e13 e14 e5 dz e42;obtain ⟨env,mem,nx,obj,gh⟩:=s;obtain ⟨e2,e3,e4,e13,e14,hm,hg,hx,e5,dz,e42⟩:=h;dsimp only at e2 e3 e4 e13 e14 hm hg hx e5 dz e42;subst hm;refine gA ?_;by_cases ba:r<t.mems.length
 ·have ea:(r:Int)<t.mems.length:=by omega
  have hw:=eB (i:=r);obtain ⟨m,hmr⟩:∃ m,t.mems[r]?=some m:=⟨_,yg ba⟩;have g1:(t.mems.map fA)[r]?=some (fA m):=by rw [yc,hmr]; rfl
  rcases hc with ⟨h0,_⟩ | ⟨tn,nn,hwx,htn,zg,we⟩
  ·rw [List.map_eq_nil_iff.1 h0] at ba;exact absurd ba (Nat.not_lt_zero _)
  have hR:=ND hL hW (j:=6) (by omega);simp only [OB,yZ,Y01,hwx,y7] at hR;have uf:=KP (AC t.mems) g1 (o:=5) (z:=8) (by omega);have pf:=KN (AC t.mems) g1 (o:=5) (z:=8) (by omega) .no;rw [memC_dflt] at uf pf;have re:=DX _ m.dflt (Nat.lt_succ_self _) (kc m (yD hmr));have se:=JM m.dflt;have bg:=cQ we;simp only [pQ] at re;generalize ja:xA (t.mems.map fA)=row at *
  generalize lf:OA L W=R at *
  simp [mF,-J,-y6,-y5,y0,-aA,-uA,wA,tA,eA,qA,e5,dz,e42,ba,ea,hw,m9,hR,wA,we,uf,se,re,pf,bg];exact ih ba _ ⟨by simp [e2],by simp [e3],by simp [e4],by simp [e13],by simp [e14],rfl,hg,by dsimp only; omega,by simp [e5],by simp [dz],by simp⟩
 ·have ea:¬ (r:Int)<t.mems.length:=by omega
  simp [mF,-J,-y6,-y5,y0,-aA,-uA,wA,tA,eA,qA,dz,e42,ea];exact hk _ _ ⟨rfl,by simp [e2],by simp [e3],by simp [e4],by simp [e13],by simp [e14],rfl,hg,by dsimp only; omega⟩
structure CpI (L:List QA) (N0 M2:Nat) (W:List (rA × rA)) (i:Nat) (s0 s:pA):Prop where
 e2:(s.env 2).v=.ptr 2 M2 0
 e3:(s.env 3).v=.ptr 3 N0 0
 e13:(s.env 13).v=.int .i64 L.length
 e14:(s.env 14).v=.int .i64 i
 m2:s.mem 2 M2=some [⟨.sl true [],.ex⟩]
 m3:s.mem 3 N0=some [⟨.ref 9 N0 10 0 L.length L.length,.no⟩]
 m9:s.mem 9 N0=some (OA L W)
 len:W.length=L.length
 done:∀ (j:Nat) (t:QA) (w:rA × rA),j<i->L[j]?=some t->W[j]?=some w->MD s.mem s.next w.1 2 (t.syms.map jA)/\MD s.mem s.next w.2 13 (t.mems.map fA)
 rest:∀ (j:Nat) (t:QA) (w:rA × rA),i<=j->L[j]?=some t->W[j]?=some w->w=wT t
 nd:(W.flatMap AI).Nodup
 fr:∀ v∈W,∀ p∈AI v,p.2<s.next
 gh:s.gh=s0.gh
 old:∀ t n,n<s0.next->s.mem t n=s0.mem t n
 nx:s0.next<=M2/\s0.next<=N0/\M2<s.next/\N0<s.next
def tyLay (t:QA):Prop:=(t.sn=true->t.syms=[])/\(t.mn=true->t.mems=[])/\t.syms.length<=1000/\t.mems.length<=1000/\∀ m∈t.mems,m.dflt.lay
theorem MD.up {mem oa:Nat->Nat->Option (List rA)} {nx nx':Nat} {x:rA} {z:Nat} {l:List (List AV)} (h:MD mem nx x z l) (hm:∀ t n,t∈KS->n<nx->oa t n=mem t n) (hx:nx<=nx'):MD oa nx' x z l:=by
 rcases h with h | ⟨t,n,h1,h2,h3,h4⟩
 ·exact .inl h
 ·exact .inr ⟨t,n,h1,h2,by omega,by rw [hm t n h2 h3]; exact h4⟩
theorem LD (l:List LC):jD (l.map jA)=true:=aE _ _ fun _=>rfl
theorem KD (l:List fB):jD (l.map fA)=true:=aE _ _ fun _=>rfl
theorem aY (l:List QA):jD (l.map iA)=true:=aE _ _ fun _=>rfl
theorem qF {α:Type} {l:List α} {i:Nat} {x:α} (h:l[i]?=some x):l.set i x=l:=by
 obtain ⟨hi,rfl⟩:=yh.1 h;exact List.set_getElem_self hi
theorem cp_out {rv:RV} {L:List QA} {N0 M2:Nat} (hl:L.length<=1000) (kc:∀ t∈L,tyLay t) (s0 s:pA) (W:List (rA × rA)) (h:CpI L N0 M2 W 0 s0 s) (k:Ex->pA->Option RV)
  (hk:∀ s' W,CpI L N0 M2 W L.length s0 s'->k (.exit 0) s'=some rv):zF sB BA jE s k=some rv:=by
 refine QE L.length (fun i s=>∃ W,CpI L N0 M2 W i s0 s) (fun e s=>e=.exit 0/\∃ W,CpI L N0 M2 W L.length s0 s) (fun i hi s k h ih hk=>?_) _ _ ⟨W,h⟩ (fun e s h=>by obtain ⟨rfl,W,h⟩:=h; exact hk _ W h);obtain ⟨W,h⟩:=h;obtain ⟨env,mem,nx,obj,gh⟩:=s;obtain ⟨e2,e3,e13,e14,m2,m3,m9,len,done,rest,nd,fr,hg,old,et,hn2,hn3,hn4⟩:=h;dsimp only at e2 e3 e13 e14 m2 m3 m9 done fr hg old hn3 hn4;refine gA ?_;by_cases ba:i<L.length
 ·have ea:(i:Int)<L.length:=by omega
  have hw:=eB (i:=i);obtain ⟨t,ht⟩:∃ t,L[i]?=some t:=⟨_,yg ba⟩;have hWi:W[i]?=some (wT t):=by
   obtain ⟨w,hw⟩:∃ w,W[i]?=some w:=⟨_,yg (by omega)⟩;rw [hw,rest i t w (yf _) ht hw]
  obtain ⟨k1,k2,k3,k4,k5⟩:=kc t (yD ht);have c1:=clo_sy t.sn (t.syms.map jA) (pD _) (fun h=>by rw [k1 h]; rfl) (LD _) (by simp; omega);have c2:=clo_me t.mn (t.mems.map fA) (AC _) (fun h=>by rw [k2 h]; rfl) (KD _) (by simp; omega);have hR5:=ND ht hWi (j:=5) (by omega);simp only [OB,wT,yZ,Y01] at hR5;have tr:L.set i t=L:=qF ht;have t1:(t.syms.map jA).all (fun c=>c.all AV.free0)=true:=LD _;have t2:(t.mems.map fA).all (fun c=>c.all AV.free0)=true:=KD _;have w1:=pD t.syms;have w2:=AC t.mems;have b1:t.syms≠[]->t.sn=false:=fun h=>by cases hk:t.sn with | false=>rfl | true=>exact absurd (k1 hk) h
  have b2:t.mems≠[]->t.mn=false:=fun h=>by cases hk:t.mn with | false=>rfl | true=>exact absurd (k2 hk) h
  have z1:(t.syms.map jA).length=t.syms.length:=y7 _;have z2:(t.mems.map fA).length=t.mems.length:=y7 _
  -- what the two lists come to
  obtain ⟨x5,hx5⟩:∃ x5:rA,x5=if t.syms=[] then ⟨.sl t.sn [],.ex⟩ else ⟨.ref 26 (nx + 3) 2 0 t.syms.length t.syms.length,.no⟩:=⟨_,rfl⟩
  obtain ⟨x6,hx6⟩:∃ x6:rA,x6=if t.mems=[] then ⟨.sl t.mn [],.ex⟩ else ⟨.ref 34 (nx + 4) 13 0 t.mems.length t.mems.length,.no⟩:=⟨_,rfl⟩
  have hW5:(W.set i (x5,(wT t).2))[i]?=some (x5,(wT t).2):=List.getElem?_set_self (by omega);have hst5:uA false 1 (i * 10 + 5) (OA L W) x5.v x5.a=some (OA L (W.set i (x5,(wT t).2))):=by
   have:=iD ht hWi (j:=5) (t':=t) (w':=(x5,(wT t).2)) (x:=x5.v) (a:=x5.a) (by omega) (by rw [hx5]; split <;> rfl) (by rfl);rw [tr] at this;exact this
  have hst6:uA false 1 (i * 10 + 6) (OA L (W.set i (x5,(wT t).2))) x6.v x6.a=some (OA L (W.set i (x5,x6))):=by
   have:=iD ht hW5 (j:=6) (t':=t) (w':=(x5,x6)) (x:=x6.v) (a:=x6.a) (by omega) (by rw [hx6]; split <;> rfl) (by rfl);rw [tr,List.set_set] at this;exact this
  have hR6:=ND ht hW5 (j:=6) (by omega);simp only [OB,wT,yZ,Y01] at hR6;have hW6:(W.set i (x5,x6))[i]?=some (x5,x6):=List.getElem?_set_self (by omega);have hR6':=ND ht hW6 (j:=6) (by omega);simp only [OB,yZ,Y01] at hR6';simp only [wT] at hst5 hst6 hR6;have h26:MD mem nx x5 2 (t.syms.map jA)\/x5=⟨.ref 26 (nx + 3) 2 0 t.syms.length t.syms.length,.no⟩:=by
   rw [hx5];split
   ·rename_i h; exact .inl (.inl ⟨by rw [h]; rfl,_,rfl⟩)
   ·exact .inr rfl
  have gd:∀ p∈AI (x5,x6),nx + 3<=p.2/\p.2<=nx + 4:=fun p hp=>by
   rw [hx5,hx6] at hp;by_cases g1:t.syms=[] <;> by_cases g2:t.mems=[] <;> simp [AI,LJ,g1,g2] at hp
   ·subst hp; exact ⟨Nat.le_succ _,yf _⟩
   ·subst hp; exact ⟨yf _,Nat.le_succ _⟩
   ·rcases hp with rfl | rfl
    ·exact ⟨yf _,Nat.le_succ _⟩
    ·exact ⟨Nat.le_succ _,yf _⟩
  -- the state behind the round
  have mI:∀ (env':Nat->rA) (oa:Nat->Nat->Option (List rA)) (nx':Nat) (nb:Nat->Nat->Option AV),nx + 5<=nx'->(∀ t n,n<nx->¬ (t=9/\n=N0)->oa t n=mem t n)->oa 9 N0=some (OA L (W.set i (x5,x6)))->(t.syms≠[]->oa 26 (nx + 3)=some (xA (t.syms.map jA)))->(t.mems≠[]->oa 34 (nx + 4)=some (xA (t.mems.map fA))) →
    (env' 2).v=.ptr 2 M2 0->(env' 3).v=.ptr 3 N0 0->(env' 13).v=.int .i64 L.length->(env' 14).v=.int .i64 ((i + 1:Nat):Int)->CpI L N0 M2 (W.set i (x5,x6)) (i + 1) s0 ⟨env',oa,nx',nb,gh⟩:=fun env' oa nx' nb ay fc h9 h26 h34 a2 a3 a13 a14=>by
   have hup:∀ t n,t∈KS->n<nx->oa t n=mem t n:=fun t n ht hn=>fc t n hn fun e=>by
    rw [e.1] at ht;exact absurd ht (by decide)
   refine ⟨a2,a3,a13,a14,?_,?_,h9,by rw [List.length_set]; exact len,?_,?_,?_,?_,hg,?_,et,hn2,by dsimp only; omega,by dsimp only; omega⟩
   ·rw [<- m2]; exact fc 2 M2 hn3 (fun e=>absurd e.1 (by decide))
   ·rw [<- m3]; exact fc 3 N0 hn4 (fun e=>absurd e.1 (by decide))
   ·intro j u w hj hu xr;by_cases gt:j=i
    ·subst gt;rw [hW6] at xr;injection xr with xr;subst xr;rw [ht] at hu;injection hu with hu;subst hu;dsimp only;constructor
     ·rw [hx5];split
      ·rename_i h; exact .inl ⟨by rw [h]; rfl,_,rfl⟩
      ·rename_i h; exact .inr ⟨26,nx + 3,by rw [z1],by decide,by omega,h26 h⟩
     ·rw [hx6];split
      ·rename_i h; exact .inl ⟨by rw [h]; rfl,_,rfl⟩
      ·rename_i h; exact .inr ⟨34,nx + 4,by rw [z2],by decide,by omega,h34 h⟩
    ·rw [List.getElem?_set_ne (fun e=>gt e.symm)] at xr;obtain ⟨g1,g2⟩:=done j u w (by omega) hu xr;exact ⟨g1.up hup (by dsimp only; omega),g2.up hup (by dsimp only; omega)⟩
   ·intro j u w hj hu xr;rw [List.getElem?_set_ne (by omega)] at xr;exact rest j u w (by omega) hu xr
   ·refine nd_set hWi nd ?_ fun p hp=>.inr fun v hv hpv=>?_
    ·rw [hx5,hx6];by_cases g1:t.syms=[] <;> by_cases g2:t.mems=[] <;> simp [AI,LJ,g1,g2]
    ·have h1:=fr v hv p hpv;have h2:=(gd p hp).1;omega
   ·intro v hv p hp;rcases List.mem_or_eq_of_mem_set hv with hv | rfl
    ·have:=fr v hv p hp;dsimp only;omega
    ·have h2:=(gd p hp).2;dsimp only;omega
   ·intro t n hn;exact (fc t n (by omega) (fun e=>by rw [e.2] at hn; omega)).trans (old t n hn)
  have pz:∀ (oa:Nat->Nat->Option (List rA)) (nx':Nat),nx + 5<=nx'->(t.mems≠[]->oa 34 (nx + 4)=some (xA (t.mems.map fA)))->MD oa nx' x6 13 (t.mems.map fA):=fun oa nx' ay h34=>by
   rw [hx6];split
   ·rename_i h; exact .inl ⟨by rw [h]; rfl,_,rfl⟩
   ·rename_i h; exact .inr ⟨34,nx + 4,by rw [z2],by decide,by omega,h34 h⟩
  have wa:=ih ba;have q:=@cp_in rv L (W.set i (x5,x6)) N0 i t (x5,x6);have y1:(t.syms.map jA=[])=(t.syms=[]):=by simp
  have y2:(t.mems.map fA=[])=(t.mems=[]):=by simp
  generalize hss:t.syms.map jA=ss at *
  generalize tl:t.mems.map fA=ms at *
  generalize hT0:OA L W=R0 at *
  generalize hT1:OA L (W.set i (x5,⟨.sl t.mn ms,.no⟩))=R1 at *
  generalize hT2:OA L (W.set i (x5,x6))=R2 at *
  by_cases h1:t.syms=[] <;> by_cases h2:t.mems=[]
  all_goals
   simp only [h1,h2,if_true,if_false] at hx5 hx6;subst hx5;subst hx6
   try rw [b1 h1] at c1 hR5
   try rw [b2 h2] at c2 hR6
   simp [jE,-J,-y6,-y5,y0,-aA,-uA,wA,tA,eA,qA,e3,e13,e14,ba,ea,m3,m9,hR5,hst5,hR6,hst6,hR6',c1,c2,w1,w2,y1,y2,z1,z2,h1,h2,wA,t1,t2,-y8];refine q (v2:=.ptr 2 M2 0) (v3:=.ptr 3 N0 0) (v4:=.int .i64 i) (v13:=.int .i64 L.length) (v14:=.int .i64 i) ht hW6 (by omega) k5 _ (by simp [kA]) (pz _ _ (by dsimp only; omega) (fun h=>by first | exact absurd h2 h | simp [kA])) (by simp [e2]) (by simp [e3]) (by simp) (by simp [e13]) (by simp [e14]) (by simp) (by simp [h2]) (by simp) _ (fun s' a2 a3 a4 a13 a14 am ag an=>?_);obtain ⟨env',oa,nx',nb,mg⟩:=s';dsimp only at a2 a3 a4 a13 a14 am ag an;subst am;subst ag;simp [-J,-y6,-y5,y0,-aA,-uA,wA,tA,eA,qA,a14,hw];refine wa _ ⟨_,mI _ _ _ _ (by omega) (fun t n h1 h2=>?_) (by simp [kA]) (fun h=>?_) (fun h=>?_) (by simp [a2]) (by simp [a3]) (by simp [a13]) (by simp)⟩
   ·have e1:¬ n=nx + 3:=by omega
    have e2:¬ n=nx + 4:=by omega
    simp [kA,h2,e1,e2]
   ·first | exact absurd h1 h | simp [kA]
   ·first | exact absurd h2 h | simp [kA]
 ·have ea:¬ (i:Int)<L.length:=by omega
  have:i=L.length:=by omega
  subst this;simp [jE,-J,-y6,-y5,y0,-aA,-uA,wA,tA,eA,qA,e13,e14];exact hk _ _ ⟨rfl,W,⟨by simp [e2],by simp [e3],by simp [e13],by simp [e14],m2,m3,m9,len,fun j t w h1 h2 h3=>by obtain ⟨g1,g2⟩:=done j t w h1 h2 h3; exact ⟨g1.up (fun _ _ _ _=>rfl) (by dsimp only; omega),g2.up (fun _ _ _ _=>rfl) (by dsimp only; omega)⟩,rest,nd,fun v hv p hp=>by have:=fr v hv p hp; dsimp only; omega,hg,old,et,hn2,by dsimp only; omega,by dsimp only; omega⟩⟩
theorem A5 {lp:LpT} {b:C} {k:Ex->pA->Option RV} {j:Nat} {s:pA}:RK lp b k (.exit j) s=k (.exit j) s:=(rfl)
theorem copied_h {r:RV} (s:pA) (sc:wP) (a:An) (hl:sc.types.length<=1000) (ey:sc.nl=true->sc.types=[]) (kc:∀ t∈sc.types,tyLay t) (k:rA->pA->Option RV)
  (hk:∀ (s':pA) (W:List (rA × rA)) (N0:Nat) (V0:AV),nX sc.types W N0 s'.next V0 s'.mem->(∀ v∈W,∀ p∈AI v,p.2<s'.next)->s'.gh=s.gh->(∀ t n,n<s.next->s'.mem t n=s.mem t n)->s.next<=N0->s.next<=s'.next->k ⟨.agg [V0],.no⟩ s'=some r):evH sB BA 35 [⟨.agg (lD sc),a⟩] s k=some r:=by
 obtain ⟨env,mem,nx,obj,gh⟩:=s;dsimp only at hk;have c1:=clo_ty sc.nl (sc.types.map iA) (tX _) (fun h=>by rw [ey h]; rfl) (aY _) (by simp; omega);have t1:(sc.types.map iA).all (fun c=>c.all AV.free0)=true:=aY _;have w1:=tX sc.types;have y1:(sc.types.map iA=[])=(sc.types=[]):=by simp
 have z1:(sc.types.map iA).length=sc.types.length:=y7 _;refine bK OE rfl rfl ?_;by_cases h1:sc.types=[]
 ·rw [h1] at c1;simp only [yR] at c1;simp [OE,-J,-y6,-y5,y0,-aA,-uA,wA,tA,eA,qA,lD,h1,c1];refine gA ?_;simp [jE,-J,-y6,-y5,y0,-aA,-uA,wA,tA,eA,qA,tA,qA,JE,sH,CH,A5];refine hk _ [] (nx + 1) _ ⟨by rw [h1]; rfl,.inl ⟨h1,_,rfl⟩,fun i t w h _=>(by rw [h1] at h; cases h),(by simp)⟩ (fun v hv=>(by cases hv)) ?gh (fun t n hn=>?old) (by omega) ?nx
  case gh=>rfl
  case nx=>dsimp only; omega
  have e1:¬ n=nx:=by omega
  have e2:¬ n=nx + 1:=by omega
  simp [kA,e1,e2]
 ·have hnf:sc.nl=false:=by cases h:sc.nl with | false=>rfl | true=>exact absurd (ey h) h1
  rw [hnf] at c1;have q:=@cp_out r sc.types (nx + 1) nx hl kc ⟨env,mem,nx,obj,gh⟩;have himm:=tpRow_imm sc.types;have se:∀ v∈sc.types.map wT,AI v=[]:=fun v hv=>by
   obtain ⟨t,_,rfl⟩:=yQ.1 hv;rfl
  have wd:(sc.types.map wT).flatMap AI=[]:=List.flatMap_eq_nil_iff.2 se;generalize hL:sc.types.map iA=ts at *
  simp [OE,-J,-y6,-y5,y0,-aA,-uA,wA,tA,eA,qA,lD,hL,hnf,h1,c1,w1,t1,y1,z1,-y8];refine q _ (sc.types.map wT) ⟨by simp,by simp,by simp,by simp,by simp [kA],by simp [kA],by simp [kA,himm],by simp,fun j t w hj=>absurd hj (Nat.not_lt_zero _),fun j t w _ h1 h2=>?rest,by rw [wd]; exact List.nodup_nil,fun v hv p hp=>(by rw [se v hv] at hp; cases hp),?gh2,fun t n hn=>?old2,?nx2⟩ _ (fun s' W h'=>?main)
  case gh2=>rfl
  case nx2=>dsimp only; omega
  case rest =>
   rw [yc,h1] at h2;injection h2 with h2;exact h2.symm
  case old2 =>
   have e1:¬ n=nx:=fun e=>by rw [e] at hn; exact absurd hn (Nat.lt_irrefl _)
   have e2:¬ n=nx + 1:=fun e=>by rw [e] at hn; dsimp only at hn; omega
   simp [kA,e1,e2]
  case main =>
   obtain ⟨env',oa,nx',nb,mg⟩:=s';obtain ⟨e2,e3,e13,e14,m2,m3,m9,len,done,rest,nd,fr,hg,old,et,hn2,hn3,hn4⟩:=h';dsimp only at e2 e3 e13 e14 m2 m3 m9 done fr hg old hn3 hn4;simp [-J,-y6,-y5,y0,-aA,-uA,wA,tA,eA,qA,e2,e3,m2,m3,tA,qA,JE,sH,CH];have za:∀ t n,t∈KS->¬ (t=2/\n=nx):=fun t n ht e=>by
    rw [e.1] at ht;exact absurd ht (by decide)
   refine hk _ W (nx + 1) _ ⟨len,.inr ⟨h1,rfl,by simp [kA,m9],by dsimp only; omega⟩,fun i t w g1 g2=>?_,nd⟩ (fun v hv p hp=>by have:=fr v hv p hp; dsimp only; omega) hg (fun t n hn=>?_) (by omega) (by dsimp only at et ⊢; omega)
   ·obtain ⟨c5,c6⟩:=done i t w (yh.1 g1).1 g1 g2;exact ⟨c5.up (fun t n ht _=>by simp only [kA]; rw [if_neg (za t n ht)]) (by dsimp only; omega),c6.up (fun t n ht _=>by simp only [kA]; rw [if_neg (za t n ht)]) (by dsimp only; omega)⟩
   ·have e1:¬ n=nx:=by omega
    have:=old t n hn;simp [kA,e1,this]
theorem tJ {sz:Nat} {l:List (List AV)} (h:AA sz l=true) {k:Nat} {c:List AV} (hk:l[k]?=some c) {j:Nat} {x:AV} (hj:j<sz) (hx:c[j]?=some x):(xA l)[k * sz + j]?=some ⟨x,.no⟩:=by
 obtain ⟨h1,h2⟩:=wS h hk (o:=j) (z:=1) (by omega);have:(((xA l).drop (k * sz + j)).take 1)[0]?=(((c.drop j).take 1).map (fun v=>(⟨v,.no⟩:rA)))[0]?:=by rw [h1]
 rw [yy,if_pos (by omega),yu,yJ,yc,yy,if_pos (by omega),yu,yJ,hx] at this;exact this
theorem mbub_lp {rv:RV} {O:List fB} {x:fB} (hO:IY fB.id O) (hl:O.length<=1000) {N:Nat} {v0 v1 v8 v9:AV} (s0:pA) (e0:(s0.env 0).v=v0) (e1:(s0.env 1).v=v1) (e8:(s0.env 8).v=v8) (e9:(s0.env 9).v=v9) (e7:(s0.env 7).v=.ref 41 N 13 0 (O.length + 1) (O.length + 1)) (mf:(s0.env 10).v=.int .i64 O.length) (hm:s0.mem 41 N=some (xA ((O++[x]).map fA))) (hN:N<s0.next) (k:Ex->pA->Option RV)
  (hk:∀ s',(s'.env 0).v=v0->(s'.env 1).v=v1->(s'.env 8).v=v8->(s'.env 9).v=v9->(s'.env 7).v=.ref 41 N 13 0 (O.length + 1) (O.length + 1)->s'.mem 41 N=some (xA ((CE fB.id x O).map fA))->N<s'.next->k (.exit 2) s'=some rv):zF E5 E9 TE s0 k=some rv:=by
 refine nP O.length (fun r s=>(s.env 0).v=v0/\(s.env 1).v=v1/\(s.env 8).v=v8/\(s.env 9).v=v9/\(s.env 7).v=.ref 41 N 13 0 (O.length + 1) (O.length + 1)/\(s.env 10).v=.int .i64 ((O.length - r:Nat):Int)/\s.mem 41 N=some (xA ((O.take (O.length - r)++x :: O.drop (O.length - r)).map fA))/\N<s.next/\∀ y∈O.drop (O.length - r),x.id<y.id)
  (fun e s=>e=.exit 2/\(s.env 0).v=v0/\(s.env 1).v=v1/\(s.env 8).v=v8/\(s.env 9).v=v9/\(s.env 7).v=.ref 41 N 13 0 (O.length + 1) (O.length + 1)/\s.mem 41 N=some (xA ((CE fB.id x O).map fA))/\N<s.next) (fun r hr s k h ih hk=>?_) _ _ ⟨e0,e1,e8,e9,e7,by simpa using mf,by simpa using hm,hN,by simp⟩ (fun e s h=>by obtain ⟨rfl,h0,h1,h8,h9,h7,h2,h3⟩:=h; exact hk _ h0 h1 h8 h9 h7 h2 h3)
 clear e0 e1 e8 e9 e7 mf hm hN;obtain ⟨env,mem,nx,obj,gh⟩:=s;obtain ⟨e0,e1,e8,e9,e7,mf,hm,hN,ku⟩:=h;dsimp only at e0 e1 e8 e9 e7 mf hm hN;obtain ⟨j,hj⟩:∃ j,j=O.length - r:=⟨_,rfl⟩;rw [<- hj] at mf hm ku;have cq:j<=O.length:=by omega
 -- where it comes to rest
 have stop:(j=0\/∃ y,O[j - 1]?=some y/\y.id<=x.id)->CE fB.id x O=O.take j++x :: O.drop j:=fun hs=>by
  have hp:dH fB.id x.id O=j:=by
   refine gQ (fun i y hi hy=>?_) ?_ cq
   ·rcases hs with rfl | ⟨z,hz,hzx⟩
    ·omega
    ·rcases Nat.lt_or_ge i (j - 1) with h | h
     ·have hp:=List.pairwise_iff_getElem.1 hO i (j - 1) (yh.1 hy).1 (yh.1 hz).1 h;rw [(yh.1 hy).2,(yh.1 hz).2] at hp;omega
     ·have:i=j - 1:=by omega
      subst this;rw [hy] at hz; injection hz with hz; subst hz; exact hzx
   ·rcases Nat.lt_or_ge j O.length with h | h
    ·refine .inr ⟨O[j],yg h,ku _ ?_⟩;rw [yj h];exact yp ..
    ·exact .inl (by omega)
  rw [WP,hp]
 refine gA ?_;by_cases h0:j=0
 ·subst h0;rw [<- stop (.inl rfl)] at hm;simp [TE,-J,-y6,-y5,y0,-aA,-uA,wA,tA,eA,qA,e7,mf];exact hk _ _ ⟨rfl,by simp [e0],by simp [e1],by simp [e8],by simp [e9],by simp [e7],hm,by dsimp only; omega⟩
 ·obtain ⟨i,rfl⟩:∃ i,j=i + 1:=⟨j - 1,by omega⟩;obtain ⟨y,hy⟩:∃ y,O[i]?=some y:=⟨_,yg (by omega)⟩;have pb:(0:Int)<((i + 1:Nat):Int):=by omega
  have wc:IntKind.i64.wrap (((i + 1:Nat):Int) - 1)=(i:Int):=by rw [IntWalk.i64_in _ (by omega)]; omega
  have ui:(0:Int)<=((i + 1:Nat):Int):=by omega
  have jg:(((i + 1:Nat):Int)).toNat=i + 1:=by omega
  have ne:((i:Nat):Int).toNat=i:=by omega
  obtain ⟨zi,hzi⟩:∃ zi:Int,zi=((i + 1:Nat):Int):=⟨_,rfl⟩;rw [<- hzi] at mf pb wc ui jg;have iq:i + 1<O.length + 1:=by omega
  have bi:i<O.length + 1:=by omega
  obtain ⟨M,hM⟩:∃ M,M=O.take (i + 1)++x :: O.drop (i + 1):=⟨_,rfl⟩;rw [<- hM] at hm;have hMl:M.length=O.length + 1:=by rw [hM]; simp; omega
  have ww:M[i + 1]?=some x:=by
   rw [hM,yE (by simp; omega),ym,yU (by omega),Nat.sub_self];rfl
  have hM0:M[i]?=some y:=by
   rw [hM,yL (by simp; omega),yy,if_pos (by omega),hy]
  have g1:(M.map fA)[i + 1]?=some (fA x):=by rw [yc,ww]; rfl
  have g0:(M.map fA)[i]?=some (fA y):=by rw [yc,hM0]; rfl
  have gb:=AC M;have dk:=tJ gb g1 (j:=0) (x:=.int .i64 x.id) (by omega) rfl;have wq:=tJ gb g0 (j:=0) (x:=.int .i64 y.id) (by omega) rfl;rw [yJ] at dk wq;have uf:=uJ gb g1;have gg:=uJ gb g0;have wm:=xF gb (k:=i + 1) (by rw [y7]; omega) (c:=fA y) rfl .no;have jm:AA 13 ((M.map fA).set (i + 1) (fA y))=true:=by rw [<- List.map_set]; exact AC _
  have mq:=xF jm (k:=i) (by rw [List.length_set,y7]; omega) (c:=fA x) rfl .no;have nq:((M.map fA).set (i + 1) (fA y)).set i (fA x)=(O.take i++x :: O.drop i).map fA:=by
   rw [<- List.map_set,<- List.map_set];congr 1;refine List.ext_getElem? fun q=>?_
   rw [List.getElem?_set,List.length_set];rcases Nat.lt_trichotomy q i with h | h | h
   ·rw [if_neg (by omega),List.getElem?_set_ne (by omega),hM,yL (by simp; omega),yL (by simp; omega),yy,yy,if_pos (by omega),if_pos h]
   ·subst h;rw [if_pos rfl,if_pos (by omega),yE (by simp; omega),ym,yU (by omega),Nat.sub_self];rfl
   ·rw [if_neg (by omega)];by_cases hq:q=i + 1
    ·subst hq;rw [List.getElem?_set_self (by omega),yE (by simp; omega),ym,yU (by omega),show i + 1 - i=0 + 1 from by omega,yZ,yu,yJ,hy]
    ·rw [List.getElem?_set_ne (by omega),hM,yE (by simp; omega),yE (by simp; omega),ym,ym,yU (by omega),yU (by omega),show q - (i + 1)=(q - (i + 2)) + 1 from by omega,show q - i=(q - (i + 2) + 1) + 1 from by omega,yZ,yZ,yu,yu];congr 1;omega
  rw [nq] at mq;simp only [fA] at uf gg wm mq;by_cases ba:x.id<y.id
  ·have hj1:i=O.length - (r + 1):=by omega
   rw [<- hj1] at ih;generalize iv:xA (M.map fA)=R0 at *
   generalize pk:xA ((O.take i++x :: O.drop i).map fA)=R2 at *
   simp [TE,-J,-y6,-y5,y0,-aA,-uA,wA,tA,eA,qA,e7,mf,pb,wc,ui,jg,ne,iq,bi,hm,dk,wq,ba,uf,gg,wm,mq];refine ih (by omega) _ ⟨by simp [e0],by simp [e1],by simp [e8],by simp [e9],by simp [e7],by simp,by simp [kA,pk],by dsimp only; omega,fun z hz=>?_⟩;rw [yj (by omega),(yh.1 hy).2] at hz;rcases yw.1 hz with rfl | hz
   ·exact ba
   ·exact ku z hz
  ·have hs:=stop (.inr ⟨y,by simpa using hy,by omega⟩);rw [hM,<- hs] at hm;rw [hM,<- hs] at dk wq;generalize iv:xA ((CE fB.id x O).map fA)=R0 at *
   simp [TE,-J,-y6,-y5,y0,-aA,-uA,wA,tA,eA,qA,e7,mf,pb,wc,ui,jg,ne,iq,bi,hm,dk,wq,ba];exact hk _ _ ⟨rfl,by simp [e0],by simp [e1],by simp [e8],by simp [e9],by simp [e7],hm,by dsimp only; omega⟩
def aX (l more:List fB) (z:Int) (i:Nat):List fB:=(l.take i).filter (fun m=>!decide (m.id=z))++more.take (i - l.length)
theorem mkp_lt {l more:List fB} {z:Int} {i:Nat} {m:fB} (h:l[i]?=some m):aX l more z (i + 1)=if m.id=z then aX l more z i else aX l more z i++[m]:=by
 have hi:=(yh.1 h).1;unfold aX;rw [List.take_succ,h,List.filter_append,show i + 1 - l.length=0 from by omega,show i - l.length=0 from by omega];by_cases hz:m.id=z <;> simp [hz]
theorem mkp_ge {l more:List fB} {z:Int} {i:Nat} {m:fB} (hi:l.length<=i) (h:more[i - l.length]?=some m):aX l more z (i + 1)=aX l more z i++[m]:=by
 unfold aX;rw [yS hi,yS (by omega),show i + 1 - l.length=(i - l.length) + 1 from by omega,List.take_succ,h,yo];rfl
theorem mkp_len (l more:List fB) (z:Int) (i:Nat):(aX l more z i).length<=l.length + more.length:=by
 unfold aX;have h1:=List.length_filter_le (fun m:fB=>!decide (m.id=z)) (l.take i);rw [ym] at h1;rw [yb,ym];omega
theorem W3 (l:List fB):(RE fB.id l).length=l.length:=by
 have:∀ (l o:List fB),(l.foldl (fun o x=>CE fB.id x o) o).length=o.length + l.length:=by
  intro l
  induction l with
  | nil=>intro o; rfl
  | cons x l ih=>intro o; rw [List.foldl_cons,ih,IJ,yA]; omega
 unfold RE;rw [this];simp
theorem srt_les_m (l:List fB):IY fB.id (RE fB.id l):=by
 have:∀ (l o:List fB),IY fB.id o->IY fB.id (l.foldl (fun o x=>CE fB.id x o) o):=by
  intro l
  induction l with
  | nil=>intro o h; exact h
  | cons x l ih=>intro o h; exact ih _ (zY h)
 exact this l [] List.Pairwise.nil
theorem Z8 (l:List fB) (x:fB):RE fB.id (l++[x])=CE fB.id x (RE fB.id l):=by
 unfold RE;rw [List.foldl_append];rfl
def W8 (P:List fB) (s:pA):Prop:=(P=[]/\(s.env 7).v=.sl true [])\/∃ N,P≠[]/\(s.env 7).v=.ref 41 N 13 0 P.length P.length/\s.mem 41 N=some (xA (P.map fA))/\N<s.next
theorem W8.of {P:List fB} {s s':pA} (h:W8 P s) (h7:(s'.env 7).v=(s.env 7).v) (hm:s'.mem=s.mem) (hn:s.next<=s'.next):W8 P s':=by
 rcases h with ⟨h1,h2⟩ | ⟨N,h1,h2,h3,h4⟩
 ·exact .inl ⟨h1,h7.trans h2⟩
 ·exact .inr ⟨N,h1,h7.trans h2,by rw [hm]; exact h3,Nat.lt_of_lt_of_le h4 hn⟩
theorem mout_lp {rv:RV} {l more:List fB} {z:Int} {b0:Bool} (hl:l.length + more.length<=900) (s:pA) (e0:(s.env 0).v=.sl b0 (l.map fA)) (e1:(s.env 1).v=.int .i64 z) (e8:(s.env 8).v=.sl false ((l++more).map fA)) (e9:(s.env 9).v=.int .i64 0) (e7:(s.env 7).v=.sl true []) (k:Ex->pA->Option RV)
  (hk:∀ s',W8 (RE fB.id (l.filter (fun m=>!decide (m.id=z))++more)) s'->k (.exit 0) s'=some rv):zF E5 E9 nD s k=some rv:=by
 refine nP (l++more).length (fun i s=>(s.env 0).v=.sl b0 (l.map fA)/\(s.env 1).v=.int .i64 z/\(s.env 8).v=.sl false ((l++more).map fA)/\(s.env 9).v=.int .i64 i/\W8 (RE fB.id (aX l more z i)) s)
  (fun e s=>e=.exit 0/\W8 (RE fB.id (l.filter (fun m=>!decide (m.id=z))++more)) s) (fun i hi s k h ih hk=>?_) _ _ ⟨e0,e1,e8,e9,.inl ⟨by simp [aX,RE],e7⟩⟩ (fun e s h=>by obtain ⟨rfl,h⟩:=h; exact hk _ h)
 clear e0 e1 e8 e9 e7;obtain ⟨env,mem,nx,obj,gh⟩:=s;obtain ⟨e0,e1,e8,e9,hO⟩:=h;dsimp only at e0 e1 e8 e9;have kb:((l++more).map fA).length=(l++more).length:=y7 _;have pj:(l.map fA).length=l.length:=y7 _;rw [yb] at kb;refine gA ?_;by_cases ba:i<(l++more).length
 ·have uu:=ba;rw [yb] at ba;have ea:(i:Int)<(l.length:Int) + (more.length:Int):=by omega
  have hw:=eB (i:=i);obtain ⟨m,hm⟩:∃ m,(l++more)[i]?=some m:=⟨_,yg uu⟩;have g1:((l++more).map fA)[i]?=some (fA m):=by rw [yc,hm]; rfl
  simp only [fA] at g1;have wa:=ih uu
  -- one more is laid
  have lay:∀ (h:aX l more z (i + 1)=aX l more z i++[m]) (env1:Nat->rA) (mem1:Nat->Nat->Option (List rA)) (nx1:Nat) (obj1:Nat->Nat->Option AV) (gh1:Nat->rA) (N:Nat),(env1 0).v=.sl b0 (l.map fA)->(env1 1).v=.int .i64 z->(env1 8).v=.sl false ((l++more).map fA)->(env1 9).v=.int .i64 i->(env1 7).v=.ref 41 N 13 0 ((RE fB.id (aX l more z i)).length + 1) ((RE fB.id (aX l more z i)).length + 1)->(env1 10).v=.int .i64 (RE fB.id (aX l more z i)).length->mem1 41 N=some (xA ((RE fB.id (aX l more z i)++[m]).map fA))->N<nx1->∀ k1:Ex->pA->Option RV,(∀ s',(s'.env 0).v=.sl b0 (l.map fA)->(s'.env 1).v=.int .i64 z->(s'.env 8).v=.sl false ((l++more).map fA)->(s'.env 9).v=.int .i64 i->W8 (RE fB.id (aX l more z (i + 1))) s'->k1 (.exit 2) s'=some rv)->zF E5 E9 TE ⟨env1,mem1,nx1,obj1,gh1⟩ k1=some rv:=fun h env1 mem1 nx1 obj1 gh1 N a0 a1 a8 a9 a7 a10 am aN k1 ge=>by
   have da:=W3 (aX l more z i);have hkl:=mkp_len l more z i;refine mbub_lp (O:=RE fB.id (aX l more z i)) (x:=m) (srt_les_m _) (by omega) _ a0 a1 a8 a9 a7 a10 am aN _ (fun s' h0 h1 h8 h9 h7 h2 h3=>ge s' h0 h1 h8 h9 ?_);rw [h,Z8];refine .inr ⟨N,?_,?_,h2,h3⟩
   ·intro e;have:=congrArg List.length e;rw [IJ] at this;simp at this
   ·rw [IJ]; exact h7
  have da:=W3 (aX l more z i);have hkl:=mkp_len l more z i;generalize hP:RE fB.id (aX l more z i)=P at *
  have ga:RA 160 (P.length + 1)=true:=by rw [sA]; omega
  have xj:RA 160 1=true:=by rw [sA]; omega
  have hwp:IntKind.i64.wrap (((P.length:Int) + 1) - 1)=(P.length:Int):=by rw [IntWalk.i64_in _ (by omega)]; omega
  have zm:IntKind.i64.wrap (P.length:Int)=(P.length:Int):=IntWalk.i64_in _ (by omega);have my:IntKind.i64.wrap 0=0:=by decide
  have xb:=LB (AC P) (aE _ _ fun _=>rfl);rw [y7] at xb;have happ:xA (P.map fA)++xA [fA m]=xA ((P++[m]).map fA):=by rw [<- cK]; simp
  have gu:P.map fA++[fA m]=(P++[m]).map fA:=by simp
  have ik:(P.map fA).length=P.length:=y7 _;simp only [fA] at gu;by_cases zf:i<l.length
  ·have ai:(i:Int)<l.length:=by omega
   have hml1:l[i]?=some m:=by rw [yL zf] at hm; exact hm
   have nj:=mkp_lt (more:=more) (z:=z) hml1;by_cases hz:m.id=z
   ·rw [if_pos hz] at nj;rw [nj,hP] at wa;generalize kg:(l++more).map fA=ma at *
    generalize ud:l.map fA=mb at *
    simp [nD,-J,-y6,-y5,y0,-aA,-uA,wA,tA,eA,qA,e0,e1,e8,e9,ea,kb,pj,zf,ai,g1,hz,hw];refine wa _ ⟨by simp [e0],by simp [e1],by simp [e8],by simp,by exact hO.of (by simp) rfl (by dsimp only; omega)⟩
   ·rw [if_neg hz] at nj;have zj:=lay nj;rcases hO with ⟨rfl,e7⟩ | ⟨N,za,e7,mN,hN⟩
    ·dsimp only at e7;generalize kg:(l++more).map fA=ma at *
     generalize ud:l.map fA=mb at *
     simp [nD,-J,-y6,-y5,y0,-aA,-uA,wA,tA,eA,qA,e0,e1,e7,e8,e9,ea,kb,pj,zf,ai,hz,g1,xj,ZG,cB];refine zj _ _ _ _ _ (nx + 2) (by simp [e0]) (by simp [e1]) (by simp [e8]) (by simp [e9]) (by simp) (by simp [zm,my]) (by simp [kA,fA]) (by omega) _ (fun s' a0 a1 a8 a9 aO=>?_);obtain ⟨env',oa,nx',nb,mg⟩:=s';dsimp only at a0 a1 a8 a9;simp [-J,-y6,-y5,y0,-aA,-uA,wA,tA,eA,qA,a9,hw];exact wa _ ⟨by simp [a0],by simp [a1],by simp [a8],by simp,by exact aO.of (by simp) rfl (by dsimp only; omega)⟩
    ·dsimp only at e7 mN hN;have hpe:P.length≠0:=fun h=>za (List.length_eq_zero_iff.1 h)
     have pe:=xb;generalize ja:xA (P.map fA)=row at xb mN;generalize kg:(l++more).map fA=ma at *
     generalize ud:l.map fA=mb at *
     simp [nD,-J,-y6,-y5,y0,-aA,-uA,wA,tA,eA,qA,e0,e1,e7,e8,e9,mN,xb,ea,kb,pj,zf,ai,hz,g1,ga,ik,hwp,ZG,cB];refine zj _ _ _ _ _ (nx + 2) (by simp [e0]) (by simp [e1]) (by simp [e8]) (by simp [e9]) (by simp) (by simp [zm,my]) (by simp [kA,fA]) (by omega) _ (fun s' a0 a1 a8 a9 aO=>?_);obtain ⟨env',oa,nx',nb,mg⟩:=s';dsimp only at a0 a1 a8 a9;simp [-J,-y6,-y5,y0,-aA,-uA,wA,tA,eA,qA,a9,hw];exact wa _ ⟨by simp [a0],by simp [a1],by simp [a8],by simp,by exact aO.of (by simp) rfl (by dsimp only; omega)⟩
  ·have ai:¬ (i:Int)<l.length:=by omega
   have hm1:more[i - l.length]?=some m:=by rw [yE (by omega)] at hm; exact hm
   have zj:=lay (mkp_ge (by omega) hm1);rcases hO with ⟨rfl,e7⟩ | ⟨N,za,e7,mN,hN⟩
   ·dsimp only at e7;generalize kg:(l++more).map fA=ma at *
    generalize ud:l.map fA=mb at *
    simp [nD,-J,-y6,-y5,y0,-aA,-uA,wA,tA,eA,qA,e0,e1,e7,e8,e9,ea,kb,pj,zf,ai,g1,xj,ZG,cB];refine zj _ _ _ _ _ (nx + 2) (by simp [e0]) (by simp [e1]) (by simp [e8]) (by simp [e9]) (by simp) (by simp [zm,my]) (by simp [kA,fA]) (by omega) _ (fun s' a0 a1 a8 a9 aO=>?_);obtain ⟨env',oa,nx',nb,mg⟩:=s';dsimp only at a0 a1 a8 a9;simp [-J,-y6,-y5,y0,-aA,-uA,wA,tA,eA,qA,a9,hw];exact wa _ ⟨by simp [a0],by simp [a1],by simp [a8],by simp,by exact aO.of (by simp) rfl (by dsimp only; omega)⟩
   ·dsimp only at e7 mN hN;have hpe:P.length≠0:=fun h=>za (List.length_eq_zero_iff.1 h)
    have pe:=xb;generalize ja:xA (P.map fA)=row at xb mN;generalize kg:(l++more).map fA=ma at *
    generalize ud:l.map fA=mb at *
    simp [nD,-J,-y6,-y5,y0,-aA,-uA,wA,tA,eA,qA,e0,e1,e7,e8,e9,mN,xb,ea,kb,pj,zf,ai,g1,ga,ik,hwp,ZG,cB];refine zj _ _ _ _ _ (nx + 2) (by simp [e0]) (by simp [e1]) (by simp [e8]) (by simp [e9]) (by simp) (by simp [zm,my]) (by simp [kA,fA]) (by omega) _ (fun s' a0 a1 a8 a9 aO=>?_);obtain ⟨env',oa,nx',nb,mg⟩:=s';dsimp only at a0 a1 a8 a9;simp [-J,-y6,-y5,y0,-aA,-uA,wA,tA,eA,qA,a9,hw];exact wa _ ⟨by simp [a0],by simp [a1],by simp [a8],by simp,by exact aO.of (by simp) rfl (by dsimp only; omega)⟩
 ·have bd:i=(l++more).length:=by omega
  have ge:aX l more z i=l.filter (fun m=>!decide (m.id=z))++more:=by
   unfold aX;rw [yb] at bd;rw [yS (by omega),yS (by omega)]
  rw [ge] at hO;have ea:¬ (i:Int)<(l.length:Int) + (more.length:Int):=by rw [yb] at bd; omega
  generalize kg:(l++more).map fA=ma at *
  simp [nD,-J,-y6,-y5,y0,-aA,-uA,wA,tA,eA,qA,e8,e9,kb,ea];exact hk _ _ ⟨rfl,by exact hO.of (by simp) rfl (by dsimp only; omega)⟩
theorem KZ (l more:List fB) (z:Int) (b0 b2:Bool) (hl:l.length + more.length<=900):cW 117 [.sl b0 (l.map fA),.int .i64 z,.sl b2 (more.map fA)] (.sl (RE fB.id (l.filter (fun m=>!decide (m.id=z))++more)).isEmpty ((RE fB.id (l.filter (fun m=>!decide (m.id=z))++more)).map fA)):=by
 have kb:(l.map fA).length=l.length:=y7 _;have wy:(more.map fA).length=more.length:=y7 _;have w1:=AC l;have w2:=AC more;have w3:=AC (l++more);have r1:RA 160 l.length=true:=by rw [sA]; omega
 have r2:RA 160 (l.length + more.length)=true:=by rw [sA]; omega
 have nc:l.map fA++more.map fA=(l++more).map fA:=(List.map_append ..).symm;have q:=fun (r:RV)=>@mout_lp r l more z b0 hl
 refine wC pK rfl rfl ?_;obtain ⟨R,hR⟩:∃ R,R=RE fB.id (l.filter (fun m=>!decide (m.id=z))++more):=⟨_,rfl⟩;rw [<- hR] at q ⊢;have xb:=LB (AC R) (aE _ _ fun _=>rfl);rw [y7] at xb;generalize kg:l.map fA=ma at *
 generalize ud:more.map fA=mb at *
 generalize hmc:(l++more).map fA=mc at *
 simp [pK,-J,-y6,-y5,y0,-aA,-uA,wA,tA,eA,qA,kb,wy,w1,w2,w3,r1,r2,nc];refine q _ _ (by simp) (by simp) (by simp) (by simp) (by simp) _ (fun s' hO=>?_);rcases hO with ⟨rfl,e7⟩ | ⟨N,za,e7,mN,hN⟩
 ·simp [-J,-y6,-y5,y0,-aA,-uA,wA,tA,eA,qA,e7]
 ·generalize ja:xA (R.map fA)=row at *
  have he:R.isEmpty=false:=by cases hr:R with | nil=>exact absurd hr za | cons=>rfl
  simp [-J,-y6,-y5,y0,-aA,-uA,wA,tA,eA,qA,e7,mN,xb,he]
theorem TG (nt:Nat) (e g:Nat->rA):restE nt (waitE nt e g)=g:=funext fun t=>by
 rw [t7,I7,if_neg (by omega)];congr 1;omega
structure MN (s0 s:pA):Prop where
 gh:s.gh=s0.gh
 mem:s.mem=s0.mem
 next:s0.next<=s.next
structure Plm (k:Nat) (N0 n3 n5:Nat) (z:Int) (l:List fB) (s:pA):Prop where
 m5:∃ a,s.mem 5 n5=some [⟨.ptr 9 N0 (k * 10),a⟩]
 m9:∃ R tn nn,s.mem 9 N0=some R/\(l≠[]->R[k * 10 + 6]?=some ⟨.ref tn nn 13 0 l.length l.length,.no⟩/\s.mem tn nn=some (xA (l.map fA)))
 m3:∃ R,s.mem 3 n3=some R/\R[4]?=some ⟨.int .i64 z,.no⟩
theorem Plm.of {k N0 n3 n5:Nat} {z:Int} {l:List fB} {s s':pA} (h:Plm k N0 n3 n5 z l s) (hm:s'.mem=s.mem):Plm k N0 n3 n5 z l s':=⟨by rw [hm]; exact h.m5,by rw [hm]; exact h.m9,by rw [hm]; exact h.m3⟩
theorem plm1 {r:RV} {kk N0 n3 n5:Nat} {z:Int} {l:List fB} {i:Nat} {x:fB} {a0 a1 a2:An} (hx:l[i]?=some x) (s:pA) (h:Plm kk N0 n3 n5 z l s) (k:rA->pA->Option RV)
  (hk:∀ s',MN s s'->k ⟨.bool (decide (z<x.id)),.no⟩ s'=some r):evH sB BA 67 [⟨.int .i64 i,a0⟩,⟨.ptr 5 n5 0,a1⟩,⟨.ptr 3 n3 0,a2⟩] s k=some r:=by
 obtain ⟨⟨a5,m5⟩,⟨R,tn,nn,m9,hl⟩,⟨R3,m3,h3⟩⟩:=h;have ba:=(yh.1 hx).1;obtain ⟨h9,mm⟩:=hl (fun e=>by rw [e] at ba; exact absurd ba (Nat.not_lt_zero _));have g1:(l.map fA)[i]?=some (fA x):=by rw [yc,hx]; rfl
 have hc:=tJ (AC l) g1 (j:=0) (x:=.int .i64 x.id) (by omega) rfl;rw [yJ] at hc;generalize xA (l.map fA)=row at *
 refine bK fE rfl rfl ?_;simp [fE,-J,-y6,-y5,y0,-aA,-uA,wA,tA,eA,qA,wA,tA,m5,m9,h9,mm,m3,h3,ba,hc,CH,JE,sH];exact hk _ ⟨rfl,rfl,by dsimp only; omega⟩
theorem plm_h {r:RV} {kk N0 n3 n5:Nat} {z:Int} {l:List fB} {a0 a1:An} {n:Int} (hn:n=l.length) (hl:l.length<=100000) (s0:pA) (h:Plm kk N0 n3 n5 z l s0) (k:rA->pA->Option RV)
  (hk:∀ s' a,MN s0 s'->k ⟨.int .i64 (dH fB.id z l:Nat),a⟩ s'=some r):evH sB BA 66 [⟨.int .i64 n,a0⟩,⟨.fn 67 [.ptr 5 n5 0,.ptr 3 n3 0],a1⟩] s0 k=some r:=by
 subst hn;refine bK lE rfl rfl ?_;simp [lE,-J,-y6,-y5,y0];refine QE l.length (fun i s=>(s.env 0).v=.int .i64 l.length/\(s.env 1).v=.fn 67 [.ptr 5 n5 0,.ptr 3 n3 0]/\(s.env 6).v=.int .i64 l.length/\(s.env 7).v=.int .i64 i/\MN s0 s/\∀ j y,j<i->l[j]?=some y->y.id<=z)
  (fun e s=>(e=.exit 0/\(s.env 0).v=.int .i64 l.length/\MN s0 s/\dH fB.id z l=l.length)\/(e=.ret/\(s.env 4).v=.int .i64 (dH fB.id z l:Nat)/\MN s0 s)) (fun i hi s kont h2 ih hk=>?_) _ _ ?_ (fun e s h2=>?_)
 ·obtain ⟨e0,e1,e6,e7,⟨sg,sm,sn⟩,zc⟩:=h2;have hP:=h.of sm;refine gA ?_;by_cases ba:i<l.length
  ·have ea:(i:Int)<l.length:=by omega
   have hw:=eB (i:=i);obtain ⟨x,hx⟩:∃ x,l[i]?=some x:=⟨_,yg ba⟩;have wa:=ih ba;obtain ⟨env,mem,nx,obj,gh⟩:=s;dsimp only at e0 e1 e6 e7 sg sm sn;simp [FE,-J,-y6,-y5,y0,e1,e6,e7,ea];refine plm1 (kk:=kk) (N0:=N0) (z:=z) hx _ ?hp _ (fun s' hs=>?main)
   case hp=>exact hP.of rfl
   obtain ⟨env',oa,nx',nb,mg⟩:=s';obtain ⟨h1,h2,h3⟩:=hs;dsimp only at h1 h2 h3;subst h1;subst h2;by_cases hz:z<x.id
   ·have ik:dH fB.id z l=i:=gQ zc (.inr ⟨x,hx,hz⟩) (by omega);rw [ik] at hk;simp [-J,-y6,-y5,y0,hz];exact hk _ _ (.inr ⟨rfl,by simp,by simp [TG,sg],sm,by dsimp only; omega⟩)
   ·simp [-J,-y6,-y5,y0,hz,e7,hw];refine wa _ ⟨by simp [e0],by simp [e1],by simp [e6],by simp,⟨by simp [TG,sg],sm,by dsimp only; omega⟩,fun j y hj hy=>?_⟩;by_cases gt:j=i
    ·subst gt;rw [hx] at hy;injection hy with hy;subst hy;omega
    ·exact zc j y (by omega) hy
  ·have ea:¬ (i:Int)<l.length:=by omega
   have aj:i=l.length:=by omega
   subst aj;have ik:dH fB.id z l=l.length:=gQ zc (.inl rfl) (yf _);simp [FE,-J,-y6,-y5,y0,e6,e7];exact hk _ _ (.inl ⟨rfl,by simp [e0],⟨sg,sm,by dsimp only; omega⟩,ik⟩)
 ·exact ⟨by simp,by simp,by simp,by simp,⟨rfl,rfl,by dsimp only [pA.initH]; omega⟩,fun j y hj=>absurd hj (Nat.not_lt_zero _)⟩
 ·rcases h2 with ⟨rfl,e0,⟨sg,sm,sn⟩,hp⟩ | ⟨rfl,e4,⟨sg,sm,sn⟩⟩
  ·rw [hp] at hk;simp [-J,-y6,-y5,y0,e0,CH,JE,sH];exact hk _ _ ⟨sg,sm,by dsimp only; omega⟩
  ·simp [-J,-y6,-y5,y0,CH,JE,sH];have kt:s.env 4=⟨.int .i64 (dH fB.id z l:Nat),(s.env 4).a⟩:=by rw [<- e4]
   rw [kt];exact hk _ _ ⟨sg,sm,sn⟩
structure Pls (k:Nat) (N0 n3 n5:Nat) (z:Int) (l:List LC) (s:pA):Prop where
 m5:∃ a,s.mem 5 n5=some [⟨.ptr 9 N0 (k * 10),a⟩]
 m9:∃ R tn nn,s.mem 9 N0=some R/\(l≠[]->R[k * 10 + 5]?=some ⟨.ref tn nn 2 0 l.length l.length,.no⟩/\s.mem tn nn=some (xA (l.map jA)))
 m3:∃ R,s.mem 3 n3=some R/\R[17]?=some ⟨.int .i64 z,.no⟩
theorem Pls.of {k N0 n3 n5:Nat} {z:Int} {l:List LC} {s s':pA} (h:Pls k N0 n3 n5 z l s) (hm:s'.mem=s.mem):Pls k N0 n3 n5 z l s':=⟨by rw [hm]; exact h.m5,by rw [hm]; exact h.m9,by rw [hm]; exact h.m3⟩
theorem pls1 {r:RV} {kk N0 n3 n5:Nat} {z:Int} {l:List LC} {i:Nat} {x:LC} {a0 a1 a2:An} (hx:l[i]?=some x) (s:pA) (h:Pls kk N0 n3 n5 z l s) (k:rA->pA->Option RV)
  (hk:∀ s',MN s s'->k ⟨.bool (decide (z<x.id)),.no⟩ s'=some r):evH sB BA 71 [⟨.int .i64 i,a0⟩,⟨.ptr 5 n5 0,a1⟩,⟨.ptr 3 n3 0,a2⟩] s k=some r:=by
 obtain ⟨⟨a5,m5⟩,⟨R,tn,nn,m9,hl⟩,⟨R3,m3,h3⟩⟩:=h;have ba:=(yh.1 hx).1;obtain ⟨h9,mm⟩:=hl (fun e=>by rw [e] at ba; exact absurd ba (Nat.not_lt_zero _));have g1:(l.map jA)[i]?=some (jA x):=by rw [yc,hx]; rfl
 have hc:=tJ (pD l) g1 (j:=0) (x:=.int .i64 x.id) (by omega) rfl;rw [yJ] at hc;generalize xA (l.map jA)=row at *
 refine bK gE rfl rfl ?_;simp [gE,-J,-y6,-y5,y0,-aA,-uA,wA,tA,eA,qA,wA,tA,m5,m9,h9,mm,m3,h3,ba,hc,CH,JE,sH];exact hk _ ⟨rfl,rfl,by dsimp only; omega⟩
theorem pls_h {r:RV} {kk N0 n3 n5:Nat} {z:Int} {l:List LC} {a0 a1:An} {n:Int} (hn:n=l.length) (hl:l.length<=100000) (s0:pA) (h:Pls kk N0 n3 n5 z l s0) (k:rA->pA->Option RV)
  (hk:∀ s' a,MN s0 s'->k ⟨.int .i64 (dH LC.id z l:Nat),a⟩ s'=some r):evH sB BA 66 [⟨.int .i64 n,a0⟩,⟨.fn 71 [.ptr 5 n5 0,.ptr 3 n3 0],a1⟩] s0 k=some r:=by
 subst hn;refine bK lE rfl rfl ?_;simp [lE,-J,-y6,-y5,y0];refine QE l.length (fun i s=>(s.env 0).v=.int .i64 l.length/\(s.env 1).v=.fn 71 [.ptr 5 n5 0,.ptr 3 n3 0]/\(s.env 6).v=.int .i64 l.length/\(s.env 7).v=.int .i64 i/\MN s0 s/\∀ j y,j<i->l[j]?=some y->y.id<=z)
  (fun e s=>(e=.exit 0/\(s.env 0).v=.int .i64 l.length/\MN s0 s/\dH LC.id z l=l.length)\/(e=.ret/\(s.env 4).v=.int .i64 (dH LC.id z l:Nat)/\MN s0 s)) (fun i hi s kont h2 ih hk=>?_) _ _ ?_ (fun e s h2=>?_)
 ·obtain ⟨e0,e1,e6,e7,⟨sg,sm,sn⟩,zc⟩:=h2;have hP:=h.of sm;refine gA ?_;by_cases ba:i<l.length
  ·have ea:(i:Int)<l.length:=by omega
   have hw:=eB (i:=i);obtain ⟨x,hx⟩:∃ x,l[i]?=some x:=⟨_,yg ba⟩;have wa:=ih ba;obtain ⟨env,mem,nx,obj,gh⟩:=s;dsimp only at e0 e1 e6 e7 sg sm sn;simp [FE,-J,-y6,-y5,y0,e1,e6,e7,ea];refine pls1 (kk:=kk) (N0:=N0) (z:=z) hx _ ?hp _ (fun s' hs=>?main)
   case hp=>exact hP.of rfl
   obtain ⟨env',oa,nx',nb,mg⟩:=s';obtain ⟨h1,h2,h3⟩:=hs;dsimp only at h1 h2 h3;subst h1;subst h2;by_cases hz:z<x.id
   ·have ik:dH LC.id z l=i:=gQ zc (.inr ⟨x,hx,hz⟩) (by omega);rw [ik] at hk;simp [-J,-y6,-y5,y0,hz];exact hk _ _ (.inr ⟨rfl,by simp,by simp [TG,sg],sm,by dsimp only; omega⟩)
   ·simp [-J,-y6,-y5,y0,hz,e7,hw];refine wa _ ⟨by simp [e0],by simp [e1],by simp [e6],by simp,⟨by simp [TG,sg],sm,by dsimp only; omega⟩,fun j y hj hy=>?_⟩;by_cases gt:j=i
    ·subst gt;rw [hx] at hy;injection hy with hy;subst hy;omega
    ·exact zc j y (by omega) hy
  ·have ea:¬ (i:Int)<l.length:=by omega
   have aj:i=l.length:=by omega
   subst aj;have ik:dH LC.id z l=l.length:=gQ zc (.inl rfl) (yf _);simp [FE,-J,-y6,-y5,y0,e6,e7];exact hk _ _ (.inl ⟨rfl,by simp [e0],⟨sg,sm,by dsimp only; omega⟩,ik⟩)
 ·exact ⟨by simp,by simp,by simp,by simp,⟨rfl,rfl,by dsimp only [pA.initH]; omega⟩,fun j y hj=>absurd hj (Nat.not_lt_zero _)⟩
 ·rcases h2 with ⟨rfl,e0,⟨sg,sm,sn⟩,hp⟩ | ⟨rfl,e4,⟨sg,sm,sn⟩⟩
  ·rw [hp] at hk;simp [-J,-y6,-y5,y0,e0,CH,JE,sH];exact hk _ _ ⟨sg,sm,by dsimp only; omega⟩
  ·simp [-J,-y6,-y5,y0,CH,JE,sH];have kt:s.env 4=⟨.int .i64 (dH LC.id z l:Nat),(s.env 4).a⟩:=by rw [<- e4]
   rw [kt];exact hk _ _ ⟨sg,sm,sn⟩
def apS0:C:=.reg [⟨(.some 4),(.mv (.c (.bool .false))),.none⟩]
def apS1:C:=.reg [⟨(.some 6),(.mv (.t 1)),.none⟩,⟨(.some 7),(.bin .eql .false (.t 6) (.c (.int .i64 5))),.none⟩,⟨(.some 8),(.mv (.t 7)),.none⟩,⟨(.some 9),(.mv (.t 1)),(.some (8,.false))⟩,⟨(.some 10),(.bin .eql .false (.t 9) (.c (.int .i64 6))),(.some (8,.false))⟩,⟨(.some 11),(.pick (.t 8) (.c (.bool .true)) (.t 10)),.none⟩,⟨(.some 5),(.mv (.t 11)),.none⟩]
def JI:C:=.seq (.reg [⟨(.some 12),(.mv (.t 0)),.none⟩]) (.block 0 (.seq (.seq (.reg [⟨(.some 14),(.bin .eql .false (.t 12) (.c (.int .i64 1))),.none⟩,⟨(.some 13),(.mv (.t 14)),.none⟩]) (.cond (.t 13) .skip (.seq (.reg [⟨(.some 15),(.bin .eql .false (.t 12) (.c (.int .i64 2))),.none⟩,⟨(.some 13),(.mv (.t 15)),.none⟩]) (.cond (.t 13) .skip (.reg [⟨(.some 16),(.bin .eql .false (.t 12) (.c (.int .i64 3))),.none⟩,⟨(.some 13),(.mv (.t 16)),.none⟩]))))) (.cond (.t 13) (.seq (.reg [⟨(.some 17),(.mv (.t 5)),.none⟩,⟨(.some 4),(.mv (.t 17)),.none⟩]) .ret) (.seq (.seq (.reg [⟨(.some 19),(.bin .eql .false (.t 12) (.c (.int .i64 4))),.none⟩,⟨(.some 18),(.mv (.t 19)),.none⟩]) (.cond (.t 18) .skip (.reg [⟨(.some 20),(.bin .eql .false (.t 12) (.c (.int .i64 5))),.none⟩,⟨(.some 18),(.mv (.t 20)),.none⟩]))) (.cond (.t 18) (.seq (.reg [⟨(.some 21),(.mv (.t 1)),.none⟩,⟨(.some 22),(.bin .eql .false (.t 21) (.c (.int .i64 4))),.none⟩,⟨(.some 4),(.mv (.t 22)),.none⟩]) .ret) (.seq (.reg [⟨(.some 24),(.bin .eql .false (.t 12) (.c (.int .i64 6))),.none⟩,⟨(.some 23),(.mv (.t 24)),.none⟩]) (.cond (.t 23) (.seq (.reg [⟨(.some 25),(.mv (.t 5)),.none⟩,⟨(.some 26),(.mv (.t 25)),.none⟩,⟨(.some 27),(.mv (.t 1)),(.some (26,.false))⟩,⟨(.some 28),(.bin .eql .false (.t 27) (.c (.int .i64 4))),(.some (26,.false))⟩,⟨(.some 29),(.pick (.t 26) (.c (.bool .true)) (.t 28)),.none⟩,⟨(.some 4),(.mv (.t 29)),.none⟩]) .ret) (.seq (.reg [⟨(.some 31),(.bin .eql .false (.t 12) (.c (.int .i64 7))),.none⟩,⟨(.some 30),(.mv (.t 31)),.none⟩]) (.cond (.t 30) (.seq (.reg [⟨(.some 32),(.mv (.t 1)),.none⟩,⟨(.some 33),(.bin .eql .false (.t 32) (.c (.int .i64 2))),.none⟩,⟨(.some 34),(.mv (.t 33)),.none⟩,⟨(.some 35),(.mv (.t 1)),(.some (34,.false))⟩,⟨(.some 36),(.bin .eql .false (.t 35) (.c (.int .i64 3))),(.some (34,.false))⟩,⟨(.some 37),(.pick (.t 34) (.c (.bool .true)) (.t 36)),.none⟩,⟨(.some 38),(.mv (.t 37)),.none⟩,⟨(.some 39),(.mv (.t 1)),(.some (38,.false))⟩,⟨(.some 40),(.bin .eql .false (.t 39) (.c (.int .i64 7))),(.some (38,.false))⟩,⟨(.some 41),(.pick (.t 38) (.c (.bool .true)) (.t 40)),.none⟩,⟨(.some 42),(.mv (.t 41)),.none⟩,⟨(.some 43),(.mv (.t 1)),(.some (42,.false))⟩,⟨(.some 44),(.bin .eql .false (.t 43) (.c (.int .i64 8))),(.some (42,.false))⟩,⟨(.some 45),(.pick (.t 42) (.c (.bool .true)) (.t 44)),.none⟩,⟨(.some 4),(.mv (.t 45)),.none⟩]) .ret) (.seq (.reg [⟨(.some 47),(.bin .eql .false (.t 12) (.c (.int .i64 8))),.none⟩,⟨(.some 46),(.mv (.t 47)),.none⟩]) (.cond (.t 46) (.seq (.reg [⟨(.some 48),(.mv (.t 1)),.none⟩,⟨(.some 49),(.bin .eql .false (.t 48) (.c (.int .i64 4))),.none⟩,⟨(.some 50),(.mv (.t 49)),.none⟩,⟨(.some 51),(.mv (.t 1)),(.some (50,.false))⟩,⟨(.some 52),(.bin .eql .false (.t 51) (.c (.int .i64 6))),(.some (50,.false))⟩,⟨(.some 53),(.pick (.t 50) (.c (.bool .true)) (.t 52)),.none⟩,⟨(.some 4),(.mv (.t 53)),.none⟩]) .ret) (.seq (.reg [⟨(.some 55),(.bin .eql .false (.t 12) (.c (.int .i64 9))),.none⟩,⟨(.some 54),(.mv (.t 55)),.none⟩]) (.cond (.t 54) (.seq (.reg [⟨(.some 56),(.mv (.t 1)),.none⟩,⟨(.some 57),(.bin .geq .false (.t 56) (.c (.int .i64 7))),.none⟩,⟨(.some 58),(.mv (.t 57)),.none⟩,⟨(.some 59),(.mv (.t 1)),(.some (58,.true))⟩,⟨(.some 60),(.bin .leq .false (.t 59) (.c (.int .i64 9))),(.some (58,.true))⟩,⟨(.some 61),(.pick (.t 58) (.t 60) (.c (.bool .false))),.none⟩,⟨(.some 4),(.mv (.t 61)),.none⟩]) .ret) .skip)))))))))))))
def apS3:C:=.reg [⟨(.some 4),(.mv (.c (.bool .false))),.none⟩]
def apS4:C:=.ret
theorem apS_code:XA.code=.seq apS0 (.seq apS1 (.seq JI (.seq apS3 apS4))):=rfl
def raS0:C:=.reg [⟨(.some 2),(.box 10 (.t 0)),.none⟩,⟨(.some 3),(.box 25 (.t 1)),.none⟩,⟨(.some 4),(.mv (.c (.int .i64 0))),.none⟩]
def raS1:C:=.reg [⟨(.some 12),(.faddr 0 (.t 2)),.none⟩,⟨(.some 13),(.load .any .false 1 (.t 12)),.none⟩,⟨(.some 14),(.bin .eql .false (.t 13) (.c (.int .i64 5))),.none⟩,⟨(.some 15),(.mv (.t 14)),.none⟩,⟨(.some 16),(.faddr 0 (.t 2)),(.some (15,.false))⟩,⟨(.some 17),(.load .any .false 1 (.t 16)),(.some (15,.false))⟩,⟨(.some 18),(.bin .eql .false (.t 17) (.c (.int .i64 6))),(.some (15,.false))⟩,⟨(.some 19),(.pick (.t 15) (.c (.bool .true)) (.t 18)),.none⟩,⟨(.some 5),(.mv (.t 19)),.none⟩]
def raS2:C:=.reg [⟨(.some 6),(.mv (.c (.bool .false))),.none⟩]
def EI:C:=.seq (.reg [⟨(.some 20),(.faddr 0 (.t 3)),.none⟩,⟨(.some 21),(.load .any .false 1 (.t 20)),.none⟩]) (.block 0 (.seq (.seq (.reg [⟨(.some 23),(.bin .eql .false (.t 21) (.c (.int .i64 1))),.none⟩,⟨(.some 22),(.mv (.t 23)),.none⟩]) (.cond (.t 22) .skip (.seq (.reg [⟨(.some 24),(.bin .eql .false (.t 21) (.c (.int .i64 2))),.none⟩,⟨(.some 22),(.mv (.t 24)),.none⟩]) (.cond (.t 22) .skip (.reg [⟨(.some 25),(.bin .eql .false (.t 21) (.c (.int .i64 3))),.none⟩,⟨(.some 22),(.mv (.t 25)),.none⟩]))))) (.cond (.t 22) (.reg [⟨(.some 26),(.mv (.t 5)),.none⟩,⟨(.some 6),(.mv (.t 26)),.none⟩]) (.seq (.seq (.reg [⟨(.some 28),(.bin .eql .false (.t 21) (.c (.int .i64 4))),.none⟩,⟨(.some 27),(.mv (.t 28)),.none⟩]) (.cond (.t 27) .skip (.reg [⟨(.some 29),(.bin .eql .false (.t 21) (.c (.int .i64 5))),.none⟩,⟨(.some 27),(.mv (.t 29)),.none⟩]))) (.cond (.t 27) (.reg [⟨(.some 30),(.faddr 0 (.t 2)),.none⟩,⟨(.some 31),(.load .any .false 1 (.t 30)),.none⟩,⟨(.some 32),(.bin .eql .false (.t 31) (.c (.int .i64 4))),.none⟩,⟨(.some 6),(.mv (.t 32)),.none⟩]) (.seq (.reg [⟨(.some 34),(.bin .eql .false (.t 21) (.c (.int .i64 6))),.none⟩,⟨(.some 33),(.mv (.t 34)),.none⟩]) (.cond (.t 33) (.reg [⟨(.some 35),(.faddr 0 (.t 2)),.none⟩,⟨(.some 36),(.load .any .false 1 (.t 35)),.none⟩,⟨(.some 37),(.call .any 75 [(.t 36)]),.none⟩,⟨(.some 6),(.mv (.t 37)),.none⟩]) (.seq (.reg [⟨(.some 39),(.bin .eql .false (.t 21) (.c (.int .i64 7))),.none⟩,⟨(.some 38),(.mv (.t 39)),.none⟩]) (.cond (.t 38) (.reg [⟨(.some 40),(.faddr 0 (.t 2)),.none⟩,⟨(.some 41),(.load .any .false 1 (.t 40)),.none⟩,⟨(.some 42),(.bin .eql .false (.t 41) (.c (.int .i64 2))),.none⟩,⟨(.some 43),(.mv (.t 42)),.none⟩,⟨(.some 44),(.faddr 0 (.t 2)),(.some (43,.false))⟩,⟨(.some 45),(.load .any .false 1 (.t 44)),(.some (43,.false))⟩,⟨(.some 46),(.bin .eql .false (.t 45) (.c (.int .i64 3))),(.some (43,.false))⟩,⟨(.some 47),(.pick (.t 43) (.c (.bool .true)) (.t 46)),.none⟩,⟨(.some 48),(.mv (.t 47)),.none⟩,⟨(.some 49),(.faddr 0 (.t 2)),(.some (48,.false))⟩,⟨(.some 50),(.load .any .false 1 (.t 49)),(.some (48,.false))⟩,⟨(.some 51),(.bin .eql .false (.t 50) (.c (.int .i64 7))),(.some (48,.false))⟩,⟨(.some 52),(.pick (.t 48) (.c (.bool .true)) (.t 51)),.none⟩,⟨(.some 53),(.mv (.t 52)),.none⟩,⟨(.some 54),(.faddr 0 (.t 2)),(.some (53,.false))⟩,⟨(.some 55),(.load .any .false 1 (.t 54)),(.some (53,.false))⟩,⟨(.some 56),(.bin .eql .false (.t 55) (.c (.int .i64 8))),(.some (53,.false))⟩,⟨(.some 57),(.pick (.t 53) (.c (.bool .true)) (.t 56)),.none⟩,⟨(.some 6),(.mv (.t 57)),.none⟩]) (.seq (.reg [⟨(.some 59),(.bin .eql .false (.t 21) (.c (.int .i64 8))),.none⟩,⟨(.some 58),(.mv (.t 59)),.none⟩]) (.cond (.t 58) (.reg [⟨(.some 60),(.faddr 0 (.t 2)),.none⟩,⟨(.some 61),(.load .any .false 1 (.t 60)),.none⟩,⟨(.some 62),(.bin .eql .false (.t 61) (.c (.int .i64 4))),.none⟩,⟨(.some 63),(.mv (.t 62)),.none⟩,⟨(.some 64),(.faddr 0 (.t 2)),(.some (63,.false))⟩,⟨(.some 65),(.load .any .false 1 (.t 64)),(.some (63,.false))⟩,⟨(.some 66),(.bin .eql .false (.t 65) (.c (.int .i64 6))),(.some (63,.false))⟩,⟨(.some 67),(.pick (.t 63) (.c (.bool .true)) (.t 66)),.none⟩,⟨(.some 6),(.mv (.t 67)),.none⟩]) (.seq (.reg [⟨(.some 69),(.bin .eql .false (.t 21) (.c (.int .i64 9))),.none⟩,⟨(.some 68),(.mv (.t 69)),.none⟩]) (.cond (.t 68) (.reg [⟨(.some 70),(.faddr 0 (.t 2)),.none⟩,⟨(.some 71),(.load .any .false 1 (.t 70)),.none⟩,⟨(.some 72),(.bin .eql .false (.t 71) (.c (.int .i64 7))),.none⟩,⟨(.some 73),(.mv (.t 72)),.none⟩,⟨(.some 74),(.faddr 0 (.t 2)),(.some (73,.false))⟩,⟨(.some 75),(.load .any .false 1 (.t 74)),(.some (73,.false))⟩,⟨(.some 76),(.bin .eql .false (.t 75) (.c (.int .i64 8))),(.some (73,.false))⟩,⟨(.some 77),(.pick (.t 73) (.c (.bool .true)) (.t 76)),.none⟩,⟨(.some 78),(.mv (.t 77)),.none⟩,⟨(.some 79),(.faddr 0 (.t 2)),(.some (78,.false))⟩,⟨(.some 80),(.load .any .false 1 (.t 79)),(.some (78,.false))⟩,⟨(.some 81),(.bin .eql .false (.t 80) (.c (.int .i64 9))),(.some (78,.false))⟩,⟨(.some 82),(.pick (.t 78) (.c (.bool .true)) (.t 81)),.none⟩,⟨(.some 6),(.mv (.t 82)),.none⟩]) .skip)))))))))))))
def raS4:C:=.seq (.reg [⟨(.some 83),(.mv (.t 6)),.none⟩,⟨(.some 84),(.un .not (.t 83)),.none⟩]) (.cond (.t 84) (.seq (.reg [⟨(.some 4),(.mv (.c (.int .i64 1))),.none⟩]) .ret) .skip)
def CR:C:=.reg [⟨(.some 85),(.faddr 2 (.t 3)),.none⟩,⟨(.some 86),(.load .any .false 1 (.t 85)),.none⟩,⟨(.some 7),(.mv (.t 86)),.none⟩]
def BR:C:=.seq (.reg [⟨(.some 87),(.faddr 0 (.t 3)),.none⟩,⟨(.some 88),(.load .any .false 1 (.t 87)),.none⟩,⟨(.some 89),(.bin .eql .false (.t 88) (.c (.int .i64 1))),.none⟩,⟨(.some 90),(.mv (.t 89)),.none⟩,⟨(.some 91),(.faddr 0 (.t 3)),(.some (90,.false))⟩,⟨(.some 92),(.load .any .false 1 (.t 91)),(.some (90,.false))⟩,⟨(.some 93),(.bin .eql .false (.t 92) (.c (.int .i64 3))),(.some (90,.false))⟩,⟨(.some 94),(.pick (.t 90) (.c (.bool .true)) (.t 93)),.none⟩]) (.cond (.t 94) (.reg [⟨(.some 95),(.faddr 4 (.t 3)),.none⟩,⟨(.some 96),(.faddr 0 (.t 95)),.none⟩,⟨(.some 97),(.load .any .false 1 (.t 96)),.none⟩,⟨(.some 7),(.mv (.t 97)),.none⟩]) .skip)
def NR:C:=.reg [⟨(.some 99),(.load .any .true 10 (.t 2)),.none⟩,⟨(.some 100),(.mv (.t 7)),.none⟩,⟨(.some 101),(.call .any 82 [(.t 99),(.t 100)]),.none⟩,⟨(.some 98),(.mv (.t 101)),.none⟩,⟨(.some 102),(.ext (.t 98) 0),.none⟩,⟨(.some 103),(.ext (.t 98) 1),.none⟩,⟨(.some 8),(.mv (.t 102)),.none⟩,⟨(.some 9),(.mv (.t 103)),.none⟩]
def MR:C:=.seq (.reg [⟨(.some 104),(.faddr 0 (.t 3)),.none⟩,⟨(.some 105),(.load .any .false 1 (.t 104)),.none⟩,⟨(.some 106),(.bin .eql .false (.t 105) (.c (.int .i64 1))),.none⟩,⟨(.some 107),(.mv (.t 106)),.none⟩,⟨(.some 108),(.mv (.t 9)),(.some (107,.true))⟩,⟨(.some 109),(.pick (.t 107) (.t 108) (.c (.bool .false))),.none⟩]) (.cond (.t 109) (.seq (.reg [⟨(.some 4),(.mv (.c (.int .i64 5))),.none⟩]) .ret) .skip)
def qS:C:=.seq (.reg [⟨(.some 110),(.faddr 0 (.t 3)),.none⟩,⟨(.some 111),(.load .any .false 1 (.t 110)),.none⟩,⟨(.some 112),(.bin .eql .false (.t 111) (.c (.int .i64 2))),.none⟩,⟨(.some 113),(.mv (.t 112)),.none⟩,⟨(.some 114),(.faddr 0 (.t 3)),(.some (113,.false))⟩,⟨(.some 115),(.load .any .false 1 (.t 114)),(.some (113,.false))⟩,⟨(.some 116),(.bin .eql .false (.t 115) (.c (.int .i64 3))),(.some (113,.false))⟩,⟨(.some 117),(.pick (.t 113) (.c (.bool .true)) (.t 116)),.none⟩,⟨(.some 118),(.mv (.t 117)),.none⟩,⟨(.some 119),(.mv (.t 9)),(.some (118,.true))⟩,⟨(.some 120),(.un .not (.t 119)),(.some (118,.true))⟩,⟨(.some 121),(.pick (.t 118) (.t 120) (.c (.bool .false))),.none⟩]) (.cond (.t 121) (.seq (.reg [⟨(.some 4),(.mv (.c (.int .i64 4))),.none⟩]) .ret) .skip)
def dL:C:=.seq (.reg [⟨(.some 123),(.load .any .true 10 (.t 2)),.none⟩,⟨(.some 124),(.mv (.t 7)),.none⟩,⟨(.some 125),(.call .any 83 [(.t 123),(.t 124)]),.none⟩,⟨(.some 122),(.mv (.t 125)),.none⟩,⟨(.some 126),(.ext (.t 122) 0),.none⟩,⟨(.some 127),(.ext (.t 122) 1),.none⟩,⟨(.some 10),(.mv (.t 126)),.none⟩,⟨(.some 11),(.mv (.t 127)),.none⟩]) (.seq (.reg [⟨(.some 128),(.faddr 0 (.t 3)),.none⟩,⟨(.some 129),(.load .any .false 1 (.t 128)),.none⟩,⟨(.some 130),(.bin .eql .false (.t 129) (.c (.int .i64 5))),.none⟩,⟨(.some 131),(.mv (.t 130)),.none⟩,⟨(.some 132),(.mv (.t 11)),(.some (131,.true))⟩,⟨(.some 133),(.un .not (.t 132)),(.some (131,.true))⟩,⟨(.some 134),(.pick (.t 131) (.t 133) (.c (.bool .false))),.none⟩]) (.cond (.t 134) (.seq (.reg [⟨(.some 4),(.mv (.c (.int .i64 4))),.none⟩]) .ret) .skip))
def fL:C:=.reg [⟨(.some 4),(.mv (.c (.int .i64 0))),.none⟩]
def gL:C:=.ret
theorem raS_code:SE.code=.seq raS0 (.seq raS1 (.seq raS2 (.seq EI (.seq raS4 (.seq CR (.seq BR (.seq NR (.seq MR (.seq qS (.seq dL (.seq fL gL))))))))))):=rfl
theorem R9 (a k:Int) (h:¬ (a=1\/a=2\/a=3\/a=4\/a=5\/a=6\/a=7\/a=8\/a=9)):GB a k=false:=by
 cases hb:GB a k with
 | false=>rfl
 | true=>exact absurd (WX a k hb) h
section
variable {r:RV}
include r
theorem apS1_run {v0:AV} {z:Int} (s:pA) (e0:(s.env 0).v=v0) (e1:(s.env 1).v=.int .i64 z) (k:Ex->pA->Option RV)
  (hk:∀ s',(s'.env 0).v=v0->(s'.env 1).v=.int .i64 z->(s'.env 5).v=.bool (aB z)->k .nrm s'=some r):apS1.run (rD lA dA) (IF lA dA) s k=some r:=by
 by_cases k5:z=5
 ·simp [apS1,-J,-y6,-y5,y0,e1,k5];refine hk _ (by simp [e0]) (by simp [e1]) (by simp [aB,k5])
 ·by_cases k6:z=6
  ·subst k6;simp [apS1,-J,-y6,-y5,y0,e1];refine hk _ (by simp [e0]) (by simp [e1]) (by simp [aB])
  ·simp [apS1,-J,-y6,-y5,y0,e1,k5,k6];refine hk _ (by simp [e0]) (by simp [e1]) (by simp [aB,k5,k6])
theorem apS2_1 {z:Int} (s:pA) (e0:(s.env 0).v=.int .i64 1) (e1:(s.env 1).v=.int .i64 z) (e5:(s.env 5).v=.bool (aB z)) (k:Ex->pA->Option RV)
  (hk:∀ s',(s'.env 4).v=.bool (GB 1 z)->k .ret s'=some r):JI.run (rD lA dA) (IF lA dA) s k=some r:=by
 simp [JI,-J,-y6,-y5,y0,e0,e1,e5,e0];refine hk _ ?_;simp [GB,e0]
theorem apS2_2 {z:Int} (s:pA) (e0:(s.env 0).v=.int .i64 2) (e1:(s.env 1).v=.int .i64 z) (e5:(s.env 5).v=.bool (aB z)) (k:Ex->pA->Option RV)
  (hk:∀ s',(s'.env 4).v=.bool (GB 2 z)->k .ret s'=some r):JI.run (rD lA dA) (IF lA dA) s k=some r:=by
 simp [JI,-J,-y6,-y5,y0,e0,e1,e5,e0];refine hk _ ?_;simp [GB,e0]
theorem apS2_3 {z:Int} (s:pA) (e0:(s.env 0).v=.int .i64 3) (e1:(s.env 1).v=.int .i64 z) (e5:(s.env 5).v=.bool (aB z)) (k:Ex->pA->Option RV)
  (hk:∀ s',(s'.env 4).v=.bool (GB 3 z)->k .ret s'=some r):JI.run (rD lA dA) (IF lA dA) s k=some r:=by
 simp [JI,-J,-y6,-y5,y0,e0,e1,e5,e0];refine hk _ ?_;simp [GB,e0]
theorem apS2_4 {z:Int} (s:pA) (e0:(s.env 0).v=.int .i64 4) (e1:(s.env 1).v=.int .i64 z) (e5:(s.env 5).v=.bool (aB z)) (k:Ex->pA->Option RV)
  (hk:∀ s',(s'.env 4).v=.bool (GB 4 z)->k .ret s'=some r):JI.run (rD lA dA) (IF lA dA) s k=some r:=by
 simp [JI,-J,-y6,-y5,y0,e0,e1,e5,e0];refine hk _ ?_;simp [GB,e0]
theorem apS2_5 {z:Int} (s:pA) (e0:(s.env 0).v=.int .i64 5) (e1:(s.env 1).v=.int .i64 z) (e5:(s.env 5).v=.bool (aB z)) (k:Ex->pA->Option RV)
  (hk:∀ s',(s'.env 4).v=.bool (GB 5 z)->k .ret s'=some r):JI.run (rD lA dA) (IF lA dA) s k=some r:=by
 simp [JI,-J,-y6,-y5,y0,e0,e1,e5,e0];refine hk _ ?_;simp [GB,e0]
theorem apS2_6 {z:Int} (s:pA) (e0:(s.env 0).v=.int .i64 6) (e1:(s.env 1).v=.int .i64 z) (e5:(s.env 5).v=.bool (aB z)) (k:Ex->pA->Option RV)
  (hk:∀ s',(s'.env 4).v=.bool (GB 6 z)->k .ret s'=some r):JI.run (rD lA dA) (IF lA dA) s k=some r:=by
 by_cases hc:aB z=true
 ·simp [JI,-J,-y6,-y5,y0,e0,e1,e5,hc];refine hk _ ?_;simp [GB,hc]
 ·simp [JI,-J,-y6,-y5,y0,e0,e1,e5,hc];refine hk _ ?_;simp [GB,hc]
theorem apS2_7 {z:Int} (s:pA) (e0:(s.env 0).v=.int .i64 7) (e1:(s.env 1).v=.int .i64 z) (e5:(s.env 5).v=.bool (aB z)) (k:Ex->pA->Option RV)
  (hk:∀ s',(s'.env 4).v=.bool (GB 7 z)->k .ret s'=some r):JI.run (rD lA dA) (IF lA dA) s k=some r:=by
 by_cases k2:z=2
 ·simp [JI,-J,-y6,-y5,y0,e0,e1,e5,k2];refine hk _ ?_;simp [GB,k2]
 ·by_cases k3:z=3
  ·simp [JI,-J,-y6,-y5,y0,e0,e1,e5,k2,k3];refine hk _ ?_;simp [GB,k2,k3]
  ·by_cases k7:z=7
   ·simp [JI,-J,-y6,-y5,y0,e0,e1,e5,k2,k3,k7];refine hk _ ?_;simp [GB,k2,k3,k7]
   ·simp [JI,-J,-y6,-y5,y0,e0,e1,e5,k2,k3,k7];refine hk _ ?_;simp [GB,k2,k3,k7]
theorem apS2_8 {z:Int} (s:pA) (e0:(s.env 0).v=.int .i64 8) (e1:(s.env 1).v=.int .i64 z) (e5:(s.env 5).v=.bool (aB z)) (k:Ex->pA->Option RV)
  (hk:∀ s',(s'.env 4).v=.bool (GB 8 z)->k .ret s'=some r):JI.run (rD lA dA) (IF lA dA) s k=some r:=by
 by_cases k4:z=4
 ·simp [JI,-J,-y6,-y5,y0,e0,e1,e5,k4];refine hk _ ?_;simp [GB,k4]
 ·simp [JI,-J,-y6,-y5,y0,e0,e1,e5,k4];refine hk _ ?_;simp [GB,k4]
theorem apS2_9 {z:Int} (s:pA) (e0:(s.env 0).v=.int .i64 9) (e1:(s.env 1).v=.int .i64 z) (e5:(s.env 5).v=.bool (aB z)) (k:Ex->pA->Option RV)
  (hk:∀ s',(s'.env 4).v=.bool (GB 9 z)->k .ret s'=some r):JI.run (rD lA dA) (IF lA dA) s k=some r:=by
 have hq:GB 9 z=(decide (7<=z)&&decide (z<=9)):=by
  rw [Bool.eq_iff_iff];simp [GB];omega
 by_cases h7:7<=z
 ·simp [JI,-J,-y6,-y5,y0,e0,e1,e5,h7];refine hk _ ?_;simp [hq,h7]
 ·simp [JI,-J,-y6,-y5,y0,e0,e1,e5,h7];refine hk _ ?_;simp [hq,h7]
theorem apS2_no {a z:Int} (ha:¬ (a=1\/a=2\/a=3\/a=4\/a=5\/a=6\/a=7\/a=8\/a=9)) (s:pA) (e0:(s.env 0).v=.int .i64 a) (e1:(s.env 1).v=.int .i64 z) (e5:(s.env 5).v=.bool (aB z)) (k:Ex->pA->Option RV)
  (hk:∀ s',k .nrm s'=some r):JI.run (rD lA dA) (IF lA dA) s k=some r:=by
 simp only [not_or] at ha;obtain ⟨a1,a2,a3,a4,a5,a6,a7,a8,a9⟩:=ha;simp [JI,-J,-y6,-y5,y0,e0,a1,a2,a3,a4,a5,a6,a7,a8,a9];exact hk _
end
theorem eapp_ev (a z:Int):wB 64 [.int .i64 a,.int .i64 z] (.bool (GB a z)):=by
 refine EA (c:=XA) rfl rfl ?_;rw [apS_code];simp [apS0,-J,-y6,-y5,y0];refine apS1_run (v0:=.int .i64 a) (z:=z) _ (by simp) (by simp) _ (fun s' e0 e1 e5=>?_);simp only [JC];by_cases a1:a=1
 ·subst a1;simp [-J,-y6,-y5,y0];refine apS2_1 s' e0 e1 e5 _ (fun s2 e4=>?_);simp [-J,-y6,-y5,y0,XA,e4]
 ·skip
  by_cases a2:a=2
  ·subst a2;simp [-J,-y6,-y5,y0];refine apS2_2 s' e0 e1 e5 _ (fun s2 e4=>?_);simp [-J,-y6,-y5,y0,XA,e4]
  ·skip
   by_cases a3:a=3
   ·subst a3;simp [-J,-y6,-y5,y0];refine apS2_3 s' e0 e1 e5 _ (fun s2 e4=>?_);simp [-J,-y6,-y5,y0,XA,e4]
   ·skip
    by_cases a4:a=4
    ·subst a4;simp [-J,-y6,-y5,y0];refine apS2_4 s' e0 e1 e5 _ (fun s2 e4=>?_);simp [-J,-y6,-y5,y0,XA,e4]
    ·skip
     by_cases a5:a=5
     ·subst a5;simp [-J,-y6,-y5,y0];refine apS2_5 s' e0 e1 e5 _ (fun s2 e4=>?_);simp [-J,-y6,-y5,y0,XA,e4]
     ·skip
      by_cases a6:a=6
      ·subst a6;simp [-J,-y6,-y5,y0];refine apS2_6 s' e0 e1 e5 _ (fun s2 e4=>?_);simp [-J,-y6,-y5,y0,XA,e4]
      ·skip
       by_cases a7:a=7
       ·subst a7;simp [-J,-y6,-y5,y0];refine apS2_7 s' e0 e1 e5 _ (fun s2 e4=>?_);simp [-J,-y6,-y5,y0,XA,e4]
       ·skip
        by_cases a8:a=8
        ·subst a8;simp [-J,-y6,-y5,y0];refine apS2_8 s' e0 e1 e5 _ (fun s2 e4=>?_);simp [-J,-y6,-y5,y0,XA,e4]
        ·skip
         by_cases a9:a=9
         ·subst a9;simp [-J,-y6,-y5,y0];refine apS2_9 s' e0 e1 e5 _ (fun s2 e4=>?_);simp [-J,-y6,-y5,y0,XA,e4]
         ·skip
          have zc:¬ (a=1\/a=2\/a=3\/a=4\/a=5\/a=6\/a=7\/a=8\/a=9):=by simp [*]
          simp [-J,-y6,-y5,y0];refine apS2_no zc s' e0 e1 e5 _ (fun s2=>?_);simp [-J,-y6,-y5,y0,apS3,apS4,XA,R9 a z zc]
structure NN (t:QA) (e:RB) (R2 R3:List rA) (s:pA):Prop where
 e2:(s.env 2).v=.ptr 2 1 0
 e3:(s.env 3).v=.ptr 3 1 0
 m2:s.mem 2 1=some R2
 m3:s.mem 3 1=some R3
 t0:R2[0]?=some ⟨.int .i64 t.kind,.no⟩
 tt:aA true 10 0 R2=some ⟨.agg (iA t),.no⟩
 d0:R3[0]?=some ⟨.int .i64 e.kind,.no⟩
 d2:R3[2]?=some ⟨.int .i64 e.id,.no⟩
 d4:R3[4]?=some ⟨.int .i64 e.mem.id,.no⟩
theorem NN.of {t:QA} {e:RB} {R2 R3:List rA} {s s':pA} (h:NN t e R2 R3 s) (h2:(s'.env 2).v=(s.env 2).v) (h3:(s'.env 3).v=(s.env 3).v) (hm:s'.mem=s.mem):NN t e R2 R3 s' :=
 ⟨h2.trans h.e2,h3.trans h.e3,by rw [hm]; exact h.m2,by rw [hm]; exact h.m3,h.t0,h.tt,h.d0,h.d2,h.d4⟩
section
variable {r:RV} {t:QA} {e:RB} {R2 R3:List rA}
include r t e R2 R3
theorem raS1_run (s:pA) (h:NN t e R2 R3 s) (k:Ex->pA->Option RV)
  (hk:∀ s',NN t e R2 R3 s'->(s'.env 5).v=.bool (aB t.kind)->k .nrm s'=some r):raS1.run (rD lA dA) (IF lA dA) s k=some r:=by
 have h0:=h;obtain ⟨e2,e3,m2,m3,t0,tt,d0,d2,d4⟩:=h;by_cases k5:t.kind=5
 ·rw [k5] at t0;simp [raS1,-J,-y6,-y5,y0,-aA,-uA,wA,tA,eA,qA,wA,e2,m2,t0];exact hk _ (h0.of (by simp) (by simp) rfl) (by simp [aB,k5])
 ·by_cases k6:t.kind=6
  ·rw [k6] at t0;simp [raS1,-J,-y6,-y5,y0,-aA,-uA,wA,tA,eA,qA,wA,e2,m2,t0];exact hk _ (h0.of (by simp) (by simp) rfl) (by simp [aB,k6])
  ·simp [raS1,-J,-y6,-y5,y0,-aA,-uA,wA,tA,eA,qA,wA,e2,m2,t0,k5,k6];exact hk _ (h0.of (by simp) (by simp) rfl) (by simp [aB,k5,k6])
theorem raS3_1 (he:e.kind=1) (s:pA) (h:NN t e R2 R3 s) (e5:(s.env 5).v=.bool (aB t.kind)) (k:Ex->pA->Option RV)
  (hk:∀ s',NN t e R2 R3 s'->(s'.env 6).v=.bool (GB e.kind t.kind)->k .nrm s'=some r):EI.run (rD lA dA) (IF lA dA) s k=some r:=by
 have h0:=h;obtain ⟨e2,e3,m2,m3,t0,tt,d0,d2,d4⟩:=h;rw [he] at d0 hk;simp [EI,-J,-y6,-y5,y0,-aA,-uA,wA,tA,eA,qA,wA,e2,e3,m2,m3,d0,t0,e5];exact hk _ (h0.of (by simp) (by simp) rfl) (by simp [GB,aB])
theorem raS3_2 (he:e.kind=2) (s:pA) (h:NN t e R2 R3 s) (e5:(s.env 5).v=.bool (aB t.kind)) (k:Ex->pA->Option RV)
  (hk:∀ s',NN t e R2 R3 s'->(s'.env 6).v=.bool (GB e.kind t.kind)->k .nrm s'=some r):EI.run (rD lA dA) (IF lA dA) s k=some r:=by
 have h0:=h;obtain ⟨e2,e3,m2,m3,t0,tt,d0,d2,d4⟩:=h;rw [he] at d0 hk;simp [EI,-J,-y6,-y5,y0,-aA,-uA,wA,tA,eA,qA,wA,e2,e3,m2,m3,d0,t0,e5];exact hk _ (h0.of (by simp) (by simp) rfl) (by simp [GB,aB])
theorem raS3_3 (he:e.kind=3) (s:pA) (h:NN t e R2 R3 s) (e5:(s.env 5).v=.bool (aB t.kind)) (k:Ex->pA->Option RV)
  (hk:∀ s',NN t e R2 R3 s'->(s'.env 6).v=.bool (GB e.kind t.kind)->k .nrm s'=some r):EI.run (rD lA dA) (IF lA dA) s k=some r:=by
 have h0:=h;obtain ⟨e2,e3,m2,m3,t0,tt,d0,d2,d4⟩:=h;rw [he] at d0 hk;simp [EI,-J,-y6,-y5,y0,-aA,-uA,wA,tA,eA,qA,wA,e2,e3,m2,m3,d0,t0,e5];exact hk _ (h0.of (by simp) (by simp) rfl) (by simp [GB,aB])
theorem raS3_4 (he:e.kind=4) (s:pA) (h:NN t e R2 R3 s) (e5:(s.env 5).v=.bool (aB t.kind)) (k:Ex->pA->Option RV)
  (hk:∀ s',NN t e R2 R3 s'->(s'.env 6).v=.bool (GB e.kind t.kind)->k .nrm s'=some r):EI.run (rD lA dA) (IF lA dA) s k=some r:=by
 have h0:=h;obtain ⟨e2,e3,m2,m3,t0,tt,d0,d2,d4⟩:=h;rw [he] at d0 hk;simp [EI,-J,-y6,-y5,y0,-aA,-uA,wA,tA,eA,qA,wA,e2,e3,m2,m3,d0,t0,e5];exact hk _ (h0.of (by simp) (by simp) rfl) (by simp [GB,aB])
theorem raS3_5 (he:e.kind=5) (s:pA) (h:NN t e R2 R3 s) (e5:(s.env 5).v=.bool (aB t.kind)) (k:Ex->pA->Option RV)
  (hk:∀ s',NN t e R2 R3 s'->(s'.env 6).v=.bool (GB e.kind t.kind)->k .nrm s'=some r):EI.run (rD lA dA) (IF lA dA) s k=some r:=by
 have h0:=h;obtain ⟨e2,e3,m2,m3,t0,tt,d0,d2,d4⟩:=h;rw [he] at d0 hk;simp [EI,-J,-y6,-y5,y0,-aA,-uA,wA,tA,eA,qA,wA,e2,e3,m2,m3,d0,t0,e5];exact hk _ (h0.of (by simp) (by simp) rfl) (by simp [GB,aB])
theorem raS3_6 (he:e.kind=6) (s:pA) (h:NN t e R2 R3 s) (e5:(s.env 5).v=.bool (aB t.kind)) (k:Ex->pA->Option RV)
  (hk:∀ s',NN t e R2 R3 s'->(s'.env 6).v=.bool (GB e.kind t.kind)->k .nrm s'=some r):EI.run (rD lA dA) (IF lA dA) s k=some r:=by
 have h0:=h;obtain ⟨e2,e3,m2,m3,t0,tt,d0,d2,d4⟩:=h;rw [he] at d0 hk;have gd:=WG t.kind;simp only [wB] at gd;simp [EI,-J,-y6,-y5,y0,-aA,-uA,wA,tA,eA,qA,wA,e2,e3,m2,m3,d0,t0,e5,gd];exact hk _ (h0.of (by simp) (by simp) rfl) (by simp [GB,aB]; rw [Bool.eq_iff_iff]; simp; omega)
theorem raS3_7 (he:e.kind=7) (s:pA) (h:NN t e R2 R3 s) (e5:(s.env 5).v=.bool (aB t.kind)) (k:Ex->pA->Option RV)
  (hk:∀ s',NN t e R2 R3 s'->(s'.env 6).v=.bool (GB e.kind t.kind)->k .nrm s'=some r):EI.run (rD lA dA) (IF lA dA) s k=some r:=by
 have h0:=h;obtain ⟨e2,e3,m2,m3,t0,tt,d0,d2,d4⟩:=h;rw [he] at d0 hk;by_cases k2:t.kind=2
 ·rw [k2] at t0;simp [EI,-J,-y6,-y5,y0,-aA,-uA,wA,tA,eA,qA,wA,e2,e3,m2,m3,d0,t0,e5,k2];exact hk _ (h0.of (by simp) (by simp) rfl) (by simp [GB,aB,k2])
 ·by_cases k3:t.kind=3
  ·rw [k3] at t0;simp [EI,-J,-y6,-y5,y0,-aA,-uA,wA,tA,eA,qA,wA,e2,e3,m2,m3,d0,t0,e5,k2,k3];exact hk _ (h0.of (by simp) (by simp) rfl) (by simp [GB,aB,k2,k3])
  ·by_cases k7:t.kind=7
   ·rw [k7] at t0;simp [EI,-J,-y6,-y5,y0,-aA,-uA,wA,tA,eA,qA,wA,e2,e3,m2,m3,d0,t0,e5,k2,k3,k7];exact hk _ (h0.of (by simp) (by simp) rfl) (by simp [GB,aB,k2,k3,k7])
   ·simp [EI,-J,-y6,-y5,y0,-aA,-uA,wA,tA,eA,qA,wA,e2,e3,m2,m3,d0,t0,e5,k2,k3,k7];exact hk _ (h0.of (by simp) (by simp) rfl) (by simp [GB,aB,k2,k3,k7])
theorem raS3_8 (he:e.kind=8) (s:pA) (h:NN t e R2 R3 s) (e5:(s.env 5).v=.bool (aB t.kind)) (k:Ex->pA->Option RV)
  (hk:∀ s',NN t e R2 R3 s'->(s'.env 6).v=.bool (GB e.kind t.kind)->k .nrm s'=some r):EI.run (rD lA dA) (IF lA dA) s k=some r:=by
 have h0:=h;obtain ⟨e2,e3,m2,m3,t0,tt,d0,d2,d4⟩:=h;rw [he] at d0 hk;by_cases k4:t.kind=4
 ·rw [k4] at t0;simp [EI,-J,-y6,-y5,y0,-aA,-uA,wA,tA,eA,qA,wA,e2,e3,m2,m3,d0,t0,e5,k4];exact hk _ (h0.of (by simp) (by simp) rfl) (by simp [GB,aB,k4])
 ·simp [EI,-J,-y6,-y5,y0,-aA,-uA,wA,tA,eA,qA,wA,e2,e3,m2,m3,d0,t0,e5,k4];exact hk _ (h0.of (by simp) (by simp) rfl) (by simp [GB,aB,k4])
theorem raS3_9 (he:e.kind=9) (s:pA) (h:NN t e R2 R3 s) (e5:(s.env 5).v=.bool (aB t.kind)) (k:Ex->pA->Option RV)
  (hk:∀ s',NN t e R2 R3 s'->(s'.env 6).v=.bool (GB e.kind t.kind)->k .nrm s'=some r):EI.run (rD lA dA) (IF lA dA) s k=some r:=by
 have h0:=h;obtain ⟨e2,e3,m2,m3,t0,tt,d0,d2,d4⟩:=h;rw [he] at d0 hk;by_cases k7:t.kind=7
 ·rw [k7] at t0;simp [EI,-J,-y6,-y5,y0,-aA,-uA,wA,tA,eA,qA,wA,e2,e3,m2,m3,d0,t0,e5,k7];exact hk _ (h0.of (by simp) (by simp) rfl) (by simp [GB,aB,k7])
 ·by_cases k8:t.kind=8
  ·rw [k8] at t0;simp [EI,-J,-y6,-y5,y0,-aA,-uA,wA,tA,eA,qA,wA,e2,e3,m2,m3,d0,t0,e5,k7,k8];exact hk _ (h0.of (by simp) (by simp) rfl) (by simp [GB,aB,k7,k8])
  ·simp [EI,-J,-y6,-y5,y0,-aA,-uA,wA,tA,eA,qA,wA,e2,e3,m2,m3,d0,t0,e5,k7,k8];exact hk _ (h0.of (by simp) (by simp) rfl) (by simp [GB,aB,k7,k8])
theorem raS3_no (ha:¬ (e.kind=1\/e.kind=2\/e.kind=3\/e.kind=4\/e.kind=5\/e.kind=6\/e.kind=7\/e.kind=8\/e.kind=9)) (s:pA) (h:NN t e R2 R3 s) (e6:(s.env 6).v=.bool false) (k:Ex->pA->Option RV)
  (hk:∀ s',NN t e R2 R3 s'->(s'.env 6).v=.bool (GB e.kind t.kind)->k .nrm s'=some r):EI.run (rD lA dA) (IF lA dA) s k=some r:=by
 have h0:=h;obtain ⟨e2,e3,m2,m3,t0,tt,d0,d2,d4⟩:=h;have hb:=R9 e.kind t.kind ha;simp only [not_or] at ha;obtain ⟨a1,a2,a3,a4,a5,a6,a7,a8,a9⟩:=ha;simp [EI,-J,-y6,-y5,y0,-aA,-uA,wA,tA,eA,qA,wA,e3,m3,d0,a1,a2,a3,a4,a5,a6,a7,a8,a9];exact hk _ (h0.of (by simp) (by simp) rfl) (by simp [e6,hb])
theorem raS3_run (s:pA) (h:NN t e R2 R3 s) (e5:(s.env 5).v=.bool (aB t.kind)) (e6:(s.env 6).v=.bool false) (k:Ex->pA->Option RV)
  (hk:∀ s',NN t e R2 R3 s'->(s'.env 6).v=.bool (GB e.kind t.kind)->k .nrm s'=some r):EI.run (rD lA dA) (IF lA dA) s k=some r:=by
 by_cases a1:e.kind=1
 ·exact raS3_1 a1 s h e5 k hk
 ·skip
  by_cases a2:e.kind=2
  ·exact raS3_2 a2 s h e5 k hk
  ·skip
   by_cases a3:e.kind=3
   ·exact raS3_3 a3 s h e5 k hk
   ·skip
    by_cases a4:e.kind=4
    ·exact raS3_4 a4 s h e5 k hk
    ·skip
     by_cases a5:e.kind=5
     ·exact raS3_5 a5 s h e5 k hk
     ·skip
      by_cases a6:e.kind=6
      ·exact raS3_6 a6 s h e5 k hk
      ·skip
       by_cases a7:e.kind=7
       ·exact raS3_7 a7 s h e5 k hk
       ·skip
        by_cases a8:e.kind=8
        ·exact raS3_8 a8 s h e5 k hk
        ·skip
         by_cases a9:e.kind=9
         ·exact raS3_9 a9 s h e5 k hk
         ·skip
          exact raS3_no (by simp [*]) s h e6 k hk
end
def fX:C:=.seq CR (.seq BR (.seq NR (.seq MR (.seq qS (.seq dL (.seq fL gL))))))
theorem sI (l:List fB) (id:Int):R8 l id=.tup [.int .i64 (max (TB l id) 0),.bool (MK l id)]:=by
 unfold R8 TB MK;rw [qL]
theorem zI (l:List LC) (id:Int):i9 l id=.tup [.int .i64 (max (UB l id) 0),.bool (QP l id)]:=by
 unfold i9 UB QP;rw [qL]
section
variable {r:RV} {t:QA} {e:RB} {R2 R3:List rA}
include r t e R2 R3
theorem raT_1 (he:e.kind=1) (ha:GB e.kind t.kind=true) (h1:t.mems.length<=9223372036854775807) (h2:t.syms.length<=9223372036854775807) (s:pA) (h:NN t e R2 R3 s) (k:Ex->pA->Option RV)
  (hk:∀ s',(s'.env 4).v=.int .i64 (mA t e).1->k .ret s'=some r):fX.run (rD lA dA) (IF lA dA) s k=some r:=by
 obtain ⟨e2,e3,m2,m3,t0,tt,d0,d2,d4⟩:=h;have c1:=EH t e.mem.id h1;have c2:=RH t e.mem.id h2;rw [sI] at c1;rw [zI] at c2;simp only [wB] at c1 c2;have fr:(iA t).all AV.free0=true:=rfl;generalize iA t=tc at *
 rw [he] at d0;have dh:=ha;rw [he] at dh;by_cases hh:MK t.mems e.mem.id=true
 ·simp [fX,CR,BR,NR,MR,qS,dL,fL,gL,-J,-y6,-y5,y0,-aA,-uA,wA,tA,eA,qA,wA,e2,e3,m2,m3,d0,d2,d4,tt,fr,c1,c2,hh,-y8];refine hk _ ?_;simp [mA,dh,he,hh]
 ·simp [fX,CR,BR,NR,MR,qS,dL,fL,gL,-J,-y6,-y5,y0,-aA,-uA,wA,tA,eA,qA,wA,e2,e3,m2,m3,d0,d2,d4,tt,fr,c1,c2,hh,-y8];refine hk _ ?_;simp [mA,dh,he,hh]
theorem raT_2 (he:e.kind=2) (ha:GB e.kind t.kind=true) (h1:t.mems.length<=9223372036854775807) (h2:t.syms.length<=9223372036854775807) (s:pA) (h:NN t e R2 R3 s) (k:Ex->pA->Option RV)
  (hk:∀ s',(s'.env 4).v=.int .i64 (mA t e).1->k .ret s'=some r):fX.run (rD lA dA) (IF lA dA) s k=some r:=by
 obtain ⟨e2,e3,m2,m3,t0,tt,d0,d2,d4⟩:=h;have c1:=EH t e.id h1;have c2:=RH t e.id h2;rw [sI] at c1;rw [zI] at c2;simp only [wB] at c1 c2;have fr:(iA t).all AV.free0=true:=rfl;generalize iA t=tc at *
 rw [he] at d0;have dh:=ha;rw [he] at dh;by_cases hh:MK t.mems e.id=true
 ·simp [fX,CR,BR,NR,MR,qS,dL,fL,gL,-J,-y6,-y5,y0,-aA,-uA,wA,tA,eA,qA,wA,e2,e3,m2,m3,d0,d2,d4,tt,fr,c1,c2,hh,-y8];refine hk _ ?_;simp [mA,dh,he,hh]
 ·simp [fX,CR,BR,NR,MR,qS,dL,fL,gL,-J,-y6,-y5,y0,-aA,-uA,wA,tA,eA,qA,wA,e2,e3,m2,m3,d0,d2,d4,tt,fr,c1,c2,hh,-y8];refine hk _ ?_;simp [mA,dh,he,hh]
theorem raT_3 (he:e.kind=3) (ha:GB e.kind t.kind=true) (h1:t.mems.length<=9223372036854775807) (h2:t.syms.length<=9223372036854775807) (s:pA) (h:NN t e R2 R3 s) (k:Ex->pA->Option RV)
  (hk:∀ s',(s'.env 4).v=.int .i64 (mA t e).1->k .ret s'=some r):fX.run (rD lA dA) (IF lA dA) s k=some r:=by
 obtain ⟨e2,e3,m2,m3,t0,tt,d0,d2,d4⟩:=h;have c1:=EH t e.mem.id h1;have c2:=RH t e.mem.id h2;rw [sI] at c1;rw [zI] at c2;simp only [wB] at c1 c2;have fr:(iA t).all AV.free0=true:=rfl;generalize iA t=tc at *
 rw [he] at d0;have dh:=ha;rw [he] at dh;by_cases hh:MK t.mems e.mem.id=true
 ·simp [fX,CR,BR,NR,MR,qS,dL,fL,gL,-J,-y6,-y5,y0,-aA,-uA,wA,tA,eA,qA,wA,e2,e3,m2,m3,d0,d2,d4,tt,fr,c1,c2,hh,-y8];refine hk _ ?_;simp [mA,dh,he,hh]
 ·simp [fX,CR,BR,NR,MR,qS,dL,fL,gL,-J,-y6,-y5,y0,-aA,-uA,wA,tA,eA,qA,wA,e2,e3,m2,m3,d0,d2,d4,tt,fr,c1,c2,hh,-y8];refine hk _ ?_;simp [mA,dh,he,hh]
theorem raT_4 (he:e.kind=4) (ha:GB e.kind t.kind=true) (h1:t.mems.length<=9223372036854775807) (h2:t.syms.length<=9223372036854775807) (s:pA) (h:NN t e R2 R3 s) (k:Ex->pA->Option RV)
  (hk:∀ s',(s'.env 4).v=.int .i64 (mA t e).1->k .ret s'=some r):fX.run (rD lA dA) (IF lA dA) s k=some r:=by
 obtain ⟨e2,e3,m2,m3,t0,tt,d0,d2,d4⟩:=h;have c1:=EH t e.id h1;have c2:=RH t e.id h2;rw [sI] at c1;rw [zI] at c2;simp only [wB] at c1 c2;have fr:(iA t).all AV.free0=true:=rfl;generalize iA t=tc at *
 rw [he] at d0;have dh:=ha;rw [he] at dh;simp [fX,CR,BR,NR,MR,qS,dL,fL,gL,-J,-y6,-y5,y0,-aA,-uA,wA,tA,eA,qA,wA,e2,e3,m2,m3,d0,d2,d4,tt,fr,c1,c2,-y8];refine hk _ ?_;simp [mA,dh,he];split <;> rfl
theorem raT_5 (he:e.kind=5) (ha:GB e.kind t.kind=true) (h1:t.mems.length<=9223372036854775807) (h2:t.syms.length<=9223372036854775807) (s:pA) (h:NN t e R2 R3 s) (k:Ex->pA->Option RV)
  (hk:∀ s',(s'.env 4).v=.int .i64 (mA t e).1->k .ret s'=some r):fX.run (rD lA dA) (IF lA dA) s k=some r:=by
 obtain ⟨e2,e3,m2,m3,t0,tt,d0,d2,d4⟩:=h;have c1:=EH t e.id h1;have c2:=RH t e.id h2;rw [sI] at c1;rw [zI] at c2;simp only [wB] at c1 c2;have fr:(iA t).all AV.free0=true:=rfl;generalize iA t=tc at *
 rw [he] at d0;have dh:=ha;rw [he] at dh;by_cases hh:QP t.syms e.id=true
 ·simp [fX,CR,BR,NR,MR,qS,dL,fL,gL,-J,-y6,-y5,y0,-aA,-uA,wA,tA,eA,qA,wA,e2,e3,m2,m3,d0,d2,d4,tt,fr,c1,c2,hh,-y8];refine hk _ ?_;simp [mA,dh,he,hh]
 ·simp [fX,CR,BR,NR,MR,qS,dL,fL,gL,-J,-y6,-y5,y0,-aA,-uA,wA,tA,eA,qA,wA,e2,e3,m2,m3,d0,d2,d4,tt,fr,c1,c2,hh,-y8];refine hk _ ?_;simp [mA,dh,he,hh]
theorem raT_6 (he:e.kind=6) (ha:GB e.kind t.kind=true) (h1:t.mems.length<=9223372036854775807) (h2:t.syms.length<=9223372036854775807) (s:pA) (h:NN t e R2 R3 s) (k:Ex->pA->Option RV)
  (hk:∀ s',(s'.env 4).v=.int .i64 (mA t e).1->k .ret s'=some r):fX.run (rD lA dA) (IF lA dA) s k=some r:=by
 obtain ⟨e2,e3,m2,m3,t0,tt,d0,d2,d4⟩:=h;have c1:=EH t e.id h1;have c2:=RH t e.id h2;rw [sI] at c1;rw [zI] at c2;simp only [wB] at c1 c2;have fr:(iA t).all AV.free0=true:=rfl;generalize iA t=tc at *
 rw [he] at d0;have dh:=ha;rw [he] at dh;simp [fX,CR,BR,NR,MR,qS,dL,fL,gL,-J,-y6,-y5,y0,-aA,-uA,wA,tA,eA,qA,wA,e2,e3,m2,m3,d0,d2,d4,tt,fr,c1,c2,-y8];refine hk _ ?_;simp [mA,dh,he]
theorem raT_7 (he:e.kind=7) (ha:GB e.kind t.kind=true) (h1:t.mems.length<=9223372036854775807) (h2:t.syms.length<=9223372036854775807) (s:pA) (h:NN t e R2 R3 s) (k:Ex->pA->Option RV)
  (hk:∀ s',(s'.env 4).v=.int .i64 (mA t e).1->k .ret s'=some r):fX.run (rD lA dA) (IF lA dA) s k=some r:=by
 obtain ⟨e2,e3,m2,m3,t0,tt,d0,d2,d4⟩:=h;have c1:=EH t e.id h1;have c2:=RH t e.id h2;rw [sI] at c1;rw [zI] at c2;simp only [wB] at c1 c2;have fr:(iA t).all AV.free0=true:=rfl;generalize iA t=tc at *
 rw [he] at d0;have dh:=ha;rw [he] at dh;simp [fX,CR,BR,NR,MR,qS,dL,fL,gL,-J,-y6,-y5,y0,-aA,-uA,wA,tA,eA,qA,wA,e2,e3,m2,m3,d0,d2,d4,tt,fr,c1,c2,-y8];refine hk _ ?_;simp [mA,dh,he];split <;> rfl
theorem raT_8 (he:e.kind=8) (ha:GB e.kind t.kind=true) (h1:t.mems.length<=9223372036854775807) (h2:t.syms.length<=9223372036854775807) (s:pA) (h:NN t e R2 R3 s) (k:Ex->pA->Option RV)
  (hk:∀ s',(s'.env 4).v=.int .i64 (mA t e).1->k .ret s'=some r):fX.run (rD lA dA) (IF lA dA) s k=some r:=by
 obtain ⟨e2,e3,m2,m3,t0,tt,d0,d2,d4⟩:=h;have c1:=EH t e.id h1;have c2:=RH t e.id h2;rw [sI] at c1;rw [zI] at c2;simp only [wB] at c1 c2;have fr:(iA t).all AV.free0=true:=rfl;generalize iA t=tc at *
 rw [he] at d0;have dh:=ha;rw [he] at dh;simp [fX,CR,BR,NR,MR,qS,dL,fL,gL,-J,-y6,-y5,y0,-aA,-uA,wA,tA,eA,qA,wA,e2,e3,m2,m3,d0,d2,d4,tt,fr,c1,c2,-y8];refine hk _ ?_;simp [mA,dh,he]
theorem raT_9 (he:e.kind=9) (ha:GB e.kind t.kind=true) (h1:t.mems.length<=9223372036854775807) (h2:t.syms.length<=9223372036854775807) (s:pA) (h:NN t e R2 R3 s) (k:Ex->pA->Option RV)
  (hk:∀ s',(s'.env 4).v=.int .i64 (mA t e).1->k .ret s'=some r):fX.run (rD lA dA) (IF lA dA) s k=some r:=by
 obtain ⟨e2,e3,m2,m3,t0,tt,d0,d2,d4⟩:=h;have c1:=EH t e.id h1;have c2:=RH t e.id h2;rw [sI] at c1;rw [zI] at c2;simp only [wB] at c1 c2;have fr:(iA t).all AV.free0=true:=rfl;generalize iA t=tc at *
 rw [he] at d0;have dh:=ha;rw [he] at dh;simp [fX,CR,BR,NR,MR,qS,dL,fL,gL,-J,-y6,-y5,y0,-aA,-uA,wA,tA,eA,qA,wA,e2,e3,m2,m3,d0,d2,d4,tt,fr,c1,c2,-y8];refine hk _ ?_;simp [mA,dh,he]
theorem raT_run (ha:GB e.kind t.kind=true) (h1:t.mems.length<=9223372036854775807) (h2:t.syms.length<=9223372036854775807) (s:pA) (h:NN t e R2 R3 s) (k:Ex->pA->Option RV)
  (hk:∀ s',(s'.env 4).v=.int .i64 (mA t e).1->k .ret s'=some r):fX.run (rD lA dA) (IF lA dA) s k=some r:=by
 rcases WX _ _ ha with he | he | he | he | he | he | he | he | he
 ·exact raT_1 he ha h1 h2 s h k hk
 ·exact raT_2 he ha h1 h2 s h k hk
 ·exact raT_3 he ha h1 h2 s h k hk
 ·exact raT_4 he ha h1 h2 s h k hk
 ·exact raT_5 he ha h1 h2 s h k hk
 ·exact raT_6 he ha h1 h2 s h k hk
 ·exact raT_7 he ha h1 h2 s h k hk
 ·exact raT_8 he ha h1 h2 s h k hk
 ·exact raT_9 he ha h1 h2 s h k hk
end
theorem rapp_ev (t:QA) (e:RB) (h1:t.mems.length<=9223372036854775807) (h2:t.syms.length<=9223372036854775807):wB 78 [.agg (iA t),.agg (tC e)] (.int .i64 (mA t e).1):=by
 refine EA (c:=SE) rfl rfl ?_;rw [raS_code];have q1:=fun (r:RV) (s:pA) (h:NN t e ((iA t).map (⟨·,.no⟩)) ((tC e).map (⟨·,.no⟩)) s)=>raS1_run (r:=r) s h
 have uf:(iA t).length=10:=rfl;have rm:(tC e).length=25:=rfl;have ht:aA true 10 0 ((iA t).map (⟨·,.no⟩))=some ⟨.agg (iA t),.no⟩:=rfl;have b1:((iA t).map (fun v=>(⟨v,.no⟩:rA)))[0]?=some ⟨.int .i64 t.kind,.no⟩:=rfl;have b2:((tC e).map (fun v=>(⟨v,.no⟩:rA)))[0]?=some ⟨.int .i64 e.kind,.no⟩:=rfl;have b3:((tC e).map (fun v=>(⟨v,.no⟩:rA)))[2]?=some ⟨.int .i64 e.id,.no⟩:=rfl;have b4:((tC e).map (fun v=>(⟨v,.no⟩:rA)))[4]?=some ⟨.int .i64 e.mem.id,.no⟩:=rfl;generalize pk:(iA t).map (fun v=>(⟨v,.no⟩:rA))=R2 at *
 generalize hr3:(tC e).map (fun v=>(⟨v,.no⟩:rA))=R3 at *
 generalize htc:iA t=tc at *
 generalize htd:tC e=td at *
 simp [raS0,-J,-y6,-y5,y0,-aA,-uA,wA,tA,eA,qA,uf,rm,pk,hr3];refine q1 _ _ ⟨by simp,by simp,by simp,by simp,b1,by rw [htc]; exact ht,b2,b3,b4⟩ _ (fun s' h e5=>?_);simp [raS2,-J,-y6,-y5,y0];refine raS3_run (t:=t) (e:=e) (R2:=R2) (R3:=R3) _ ?h3 ?e5 ?e6 _ (fun s' h e6=>?main)
 case h3=>exact h.of (by simp) (by simp) rfl
 case e5=>simp [e5]
 case e6=>simp
 by_cases ha:GB e.kind t.kind=true
 ·rw [ha] at e6;have q2:=fun (r:RV)=>raT_run (r:=r) (R2:=R2) (R3:=R3) ha h1 h2
  unfold fX at q2;simp [raS4,-J,-y6,-y5,y0,e6];refine q2 _ _ ?h4 _ (fun s' e4=>?main2)
  case h4=>exact h.of (by simp) (by simp) rfl
  simp [-J,-y6,-y5,y0,SE,e4]
 ·have hz:(mA t e).1=1:=by
   unfold mA;rw [if_pos (Bool.eq_false_iff.2 ha)]
  rw [Bool.eq_false_iff.2 ha] at e6;simp [raS4,-J,-y6,-y5,y0,e6,SE,hz]
theorem sbub_lp {rv:RV} {O:List LC} {x:LC} (hO:IY LC.id O) (hl:O.length<=1000) {N:Nat} {v0 v1 v8 v9:AV} (s0:pA) (e0:(s0.env 0).v=v0) (e1:(s0.env 1).v=v1) (e8:(s0.env 8).v=v8) (e9:(s0.env 9).v=v9) (e7:(s0.env 7).v=.ref 41 N 2 0 (O.length + 1) (O.length + 1)) (mf:(s0.env 10).v=.int .i64 O.length) (hm:s0.mem 41 N=some (xA ((O++[x]).map jA))) (hN:N<s0.next) (k:Ex->pA->Option RV)
  (hk:∀ s',(s'.env 0).v=v0->(s'.env 1).v=v1->(s'.env 8).v=v8->(s'.env 9).v=v9->(s'.env 7).v=.ref 41 N 2 0 (O.length + 1) (O.length + 1)->s'.mem 41 N=some (xA ((CE LC.id x O).map jA))->N<s'.next->k (.exit 2) s'=some rv):zF E5 E9 UE s0 k=some rv:=by
 refine nP O.length (fun r s=>(s.env 0).v=v0/\(s.env 1).v=v1/\(s.env 8).v=v8/\(s.env 9).v=v9/\(s.env 7).v=.ref 41 N 2 0 (O.length + 1) (O.length + 1)/\(s.env 10).v=.int .i64 ((O.length - r:Nat):Int)/\s.mem 41 N=some (xA ((O.take (O.length - r)++x :: O.drop (O.length - r)).map jA))/\N<s.next/\∀ y∈O.drop (O.length - r),x.id<y.id)
  (fun e s=>e=.exit 2/\(s.env 0).v=v0/\(s.env 1).v=v1/\(s.env 8).v=v8/\(s.env 9).v=v9/\(s.env 7).v=.ref 41 N 2 0 (O.length + 1) (O.length + 1)/\s.mem 41 N=some (xA ((CE LC.id x O).map jA))/\N<s.next) (fun r hr s k h ih hk=>?_) _ _ ⟨e0,e1,e8,e9,e7,by simpa using mf,by simpa using hm,hN,by simp⟩ (fun e s h=>by obtain ⟨rfl,h0,h1,h8,h9,h7,h2,h3⟩:=h; exact hk _ h0 h1 h8 h9 h7 h2 h3)
 clear e0 e1 e8 e9 e7 mf hm hN;obtain ⟨env,mem,nx,obj,gh⟩:=s;obtain ⟨e0,e1,e8,e9,e7,mf,hm,hN,ku⟩:=h;dsimp only at e0 e1 e8 e9 e7 mf hm hN;obtain ⟨j,hj⟩:∃ j,j=O.length - r:=⟨_,rfl⟩;rw [<- hj] at mf hm ku;have cq:j<=O.length:=by omega
 -- where it comes to rest
 have stop:(j=0\/∃ y,O[j - 1]?=some y/\y.id<=x.id)->CE LC.id x O=O.take j++x :: O.drop j:=fun hs=>by
  have hp:dH LC.id x.id O=j:=by
   refine gQ (fun i y hi hy=>?_) ?_ cq
   ·rcases hs with rfl | ⟨z,hz,hzx⟩
    ·omega
    ·rcases Nat.lt_or_ge i (j - 1) with h | h
     ·have hp:=List.pairwise_iff_getElem.1 hO i (j - 1) (yh.1 hy).1 (yh.1 hz).1 h;rw [(yh.1 hy).2,(yh.1 hz).2] at hp;omega
     ·have:i=j - 1:=by omega
      subst this;rw [hy] at hz; injection hz with hz; subst hz; exact hzx
   ·rcases Nat.lt_or_ge j O.length with h | h
    ·refine .inr ⟨O[j],yg h,ku _ ?_⟩;rw [yj h];exact yp ..
    ·exact .inl (by omega)
  rw [WP,hp]
 refine gA ?_;by_cases h0:j=0
 ·subst h0;rw [<- stop (.inl rfl)] at hm;simp [UE,-J,-y6,-y5,y0,-aA,-uA,wA,tA,eA,qA,e7,mf];exact hk _ _ ⟨rfl,by simp [e0],by simp [e1],by simp [e8],by simp [e9],by simp [e7],hm,by dsimp only; omega⟩
 ·obtain ⟨i,rfl⟩:∃ i,j=i + 1:=⟨j - 1,by omega⟩;obtain ⟨y,hy⟩:∃ y,O[i]?=some y:=⟨_,yg (by omega)⟩;have pb:(0:Int)<((i + 1:Nat):Int):=by omega
  have wc:IntKind.i64.wrap (((i + 1:Nat):Int) - 1)=(i:Int):=by rw [IntWalk.i64_in _ (by omega)]; omega
  have ui:(0:Int)<=((i + 1:Nat):Int):=by omega
  have jg:(((i + 1:Nat):Int)).toNat=i + 1:=by omega
  have ne:((i:Nat):Int).toNat=i:=by omega
  obtain ⟨zi,hzi⟩:∃ zi:Int,zi=((i + 1:Nat):Int):=⟨_,rfl⟩;rw [<- hzi] at mf pb wc ui jg;have iq:i + 1<O.length + 1:=by omega
  have bi:i<O.length + 1:=by omega
  obtain ⟨M,hM⟩:∃ M,M=O.take (i + 1)++x :: O.drop (i + 1):=⟨_,rfl⟩;rw [<- hM] at hm;have hMl:M.length=O.length + 1:=by rw [hM]; simp; omega
  have ww:M[i + 1]?=some x:=by
   rw [hM,yE (by simp; omega),ym,yU (by omega),Nat.sub_self];rfl
  have hM0:M[i]?=some y:=by
   rw [hM,yL (by simp; omega),yy,if_pos (by omega),hy]
  have g1:(M.map jA)[i + 1]?=some (jA x):=by rw [yc,ww]; rfl
  have g0:(M.map jA)[i]?=some (jA y):=by rw [yc,hM0]; rfl
  have gb:=pD M;have dk:=tJ gb g1 (j:=0) (x:=.int .i64 x.id) (by omega) rfl;have wq:=tJ gb g0 (j:=0) (x:=.int .i64 y.id) (by omega) rfl;rw [yJ] at dk wq;have uf:=uJ gb g1;have gg:=uJ gb g0;have wm:=xF gb (k:=i + 1) (by rw [y7]; omega) (c:=jA y) rfl .no;have jm:AA 2 ((M.map jA).set (i + 1) (jA y))=true:=by rw [<- List.map_set]; exact pD _
  have mq:=xF jm (k:=i) (by rw [List.length_set,y7]; omega) (c:=jA x) rfl .no;have nq:((M.map jA).set (i + 1) (jA y)).set i (jA x)=(O.take i++x :: O.drop i).map jA:=by
   rw [<- List.map_set,<- List.map_set];congr 1;refine List.ext_getElem? fun q=>?_
   rw [List.getElem?_set,List.length_set];rcases Nat.lt_trichotomy q i with h | h | h
   ·rw [if_neg (by omega),List.getElem?_set_ne (by omega),hM,yL (by simp; omega),yL (by simp; omega),yy,yy,if_pos (by omega),if_pos h]
   ·subst h;rw [if_pos rfl,if_pos (by omega),yE (by simp; omega),ym,yU (by omega),Nat.sub_self];rfl
   ·rw [if_neg (by omega)];by_cases hq:q=i + 1
    ·subst hq;rw [List.getElem?_set_self (by omega),yE (by simp; omega),ym,yU (by omega),show i + 1 - i=0 + 1 from by omega,yZ,yu,yJ,hy]
    ·rw [List.getElem?_set_ne (by omega),hM,yE (by simp; omega),yE (by simp; omega),ym,ym,yU (by omega),yU (by omega),show q - (i + 1)=(q - (i + 2)) + 1 from by omega,show q - i=(q - (i + 2) + 1) + 1 from by omega,yZ,yZ,yu,yu];congr 1;omega
  rw [nq] at mq;simp only [jA] at uf gg wm mq;by_cases ba:x.id<y.id
  ·have hj1:i=O.length - (r + 1):=by omega
   rw [<- hj1] at ih;generalize iv:xA (M.map jA)=R0 at *
   generalize pk:xA ((O.take i++x :: O.drop i).map jA)=R2 at *
   simp [UE,-J,-y6,-y5,y0,-aA,-uA,wA,tA,eA,qA,e7,mf,pb,wc,ui,jg,ne,iq,bi,hm,dk,wq,ba,uf,gg,wm,mq];refine ih (by omega) _ ⟨by simp [e0],by simp [e1],by simp [e8],by simp [e9],by simp [e7],by simp,by simp [kA,pk],by dsimp only; omega,fun z hz=>?_⟩;rw [yj (by omega),(yh.1 hy).2] at hz;rcases yw.1 hz with rfl | hz
   ·exact ba
   ·exact ku z hz
  ·have hs:=stop (.inr ⟨y,by simpa using hy,by omega⟩);rw [hM,<- hs] at hm;rw [hM,<- hs] at dk wq;generalize iv:xA ((CE LC.id x O).map jA)=R0 at *
   simp [UE,-J,-y6,-y5,y0,-aA,-uA,wA,tA,eA,qA,e7,mf,pb,wc,ui,jg,ne,iq,bi,hm,dk,wq,ba];exact hk _ _ ⟨rfl,by simp [e0],by simp [e1],by simp [e8],by simp [e9],by simp [e7],hm,by dsimp only; omega⟩
def kX (l more:List LC) (z:Int) (i:Nat):List LC:=(l.take i).filter (fun m=>!decide (m.id=z))++more.take (i - l.length)
theorem skp_lt {l more:List LC} {z:Int} {i:Nat} {m:LC} (h:l[i]?=some m):kX l more z (i + 1)=if m.id=z then kX l more z i else kX l more z i++[m]:=by
 have hi:=(yh.1 h).1;unfold kX;rw [List.take_succ,h,List.filter_append,show i + 1 - l.length=0 from by omega,show i - l.length=0 from by omega];by_cases hz:m.id=z <;> simp [hz]
theorem skp_ge {l more:List LC} {z:Int} {i:Nat} {m:LC} (hi:l.length<=i) (h:more[i - l.length]?=some m):kX l more z (i + 1)=kX l more z i++[m]:=by
 unfold kX;rw [yS hi,yS (by omega),show i + 1 - l.length=(i - l.length) + 1 from by omega,List.take_succ,h,yo];rfl
theorem skp_len (l more:List LC) (z:Int) (i:Nat):(kX l more z i).length<=l.length + more.length:=by
 unfold kX;have h1:=List.length_filter_le (fun m:LC=>!decide (m.id=z)) (l.take i);rw [ym] at h1;rw [yb,ym];omega
theorem E3 (l:List LC):(RE LC.id l).length=l.length:=by
 have:∀ (l o:List LC),(l.foldl (fun o x=>CE LC.id x o) o).length=o.length + l.length:=by
  intro l
  induction l with
  | nil=>intro o; rfl
  | cons x l ih=>intro o; rw [List.foldl_cons,ih,IJ,yA]; omega
 unfold RE;rw [this];simp
theorem srt_les_s (l:List LC):IY LC.id (RE LC.id l):=by
 have:∀ (l o:List LC),IY LC.id o->IY LC.id (l.foldl (fun o x=>CE LC.id x o) o):=by
  intro l
  induction l with
  | nil=>intro o h; exact h
  | cons x l ih=>intro o h; exact ih _ (zY h)
 exact this l [] List.Pairwise.nil
theorem X8 (l:List LC) (x:LC):RE LC.id (l++[x])=CE LC.id x (RE LC.id l):=by
 unfold RE;rw [List.foldl_append];rfl
def L8 (P:List LC) (s:pA):Prop:=(P=[]/\(s.env 7).v=.sl true [])\/∃ N,P≠[]/\(s.env 7).v=.ref 41 N 2 0 P.length P.length/\s.mem 41 N=some (xA (P.map jA))/\N<s.next
theorem L8.of {P:List LC} {s s':pA} (h:L8 P s) (h7:(s'.env 7).v=(s.env 7).v) (hm:s'.mem=s.mem) (hn:s.next<=s'.next):L8 P s':=by
 rcases h with ⟨h1,h2⟩ | ⟨N,h1,h2,h3,h4⟩
 ·exact .inl ⟨h1,h7.trans h2⟩
 ·exact .inr ⟨N,h1,h7.trans h2,by rw [hm]; exact h3,Nat.lt_of_lt_of_le h4 hn⟩
theorem sout_lp {rv:RV} {l more:List LC} {z:Int} {b0:Bool} (hl:l.length + more.length<=900) (s:pA) (e0:(s.env 0).v=.sl b0 (l.map jA)) (e1:(s.env 1).v=.int .i64 z) (e8:(s.env 8).v=.sl false ((l++more).map jA)) (e9:(s.env 9).v=.int .i64 0) (e7:(s.env 7).v=.sl true []) (k:Ex->pA->Option RV)
  (hk:∀ s',L8 (RE LC.id (l.filter (fun m=>!decide (m.id=z))++more)) s'->k (.exit 0) s'=some rv):zF E5 E9 mD s k=some rv:=by
 refine nP (l++more).length (fun i s=>(s.env 0).v=.sl b0 (l.map jA)/\(s.env 1).v=.int .i64 z/\(s.env 8).v=.sl false ((l++more).map jA)/\(s.env 9).v=.int .i64 i/\L8 (RE LC.id (kX l more z i)) s)
  (fun e s=>e=.exit 0/\L8 (RE LC.id (l.filter (fun m=>!decide (m.id=z))++more)) s) (fun i hi s k h ih hk=>?_) _ _ ⟨e0,e1,e8,e9,.inl ⟨by simp [kX,RE],e7⟩⟩ (fun e s h=>by obtain ⟨rfl,h⟩:=h; exact hk _ h)
 clear e0 e1 e8 e9 e7;obtain ⟨env,mem,nx,obj,gh⟩:=s;obtain ⟨e0,e1,e8,e9,hO⟩:=h;dsimp only at e0 e1 e8 e9;have kb:((l++more).map jA).length=(l++more).length:=y7 _;have pj:(l.map jA).length=l.length:=y7 _;rw [yb] at kb;refine gA ?_;by_cases ba:i<(l++more).length
 ·have uu:=ba;rw [yb] at ba;have ea:(i:Int)<(l.length:Int) + (more.length:Int):=by omega
  have hw:=eB (i:=i);obtain ⟨m,hm⟩:∃ m,(l++more)[i]?=some m:=⟨_,yg uu⟩;have g1:((l++more).map jA)[i]?=some (jA m):=by rw [yc,hm]; rfl
  simp only [jA] at g1;have wa:=ih uu
  -- one more is laid
  have lay:∀ (h:kX l more z (i + 1)=kX l more z i++[m]) (env1:Nat->rA) (mem1:Nat->Nat->Option (List rA)) (nx1:Nat) (obj1:Nat->Nat->Option AV) (gh1:Nat->rA) (N:Nat),(env1 0).v=.sl b0 (l.map jA)->(env1 1).v=.int .i64 z->(env1 8).v=.sl false ((l++more).map jA)->(env1 9).v=.int .i64 i->(env1 7).v=.ref 41 N 2 0 ((RE LC.id (kX l more z i)).length + 1) ((RE LC.id (kX l more z i)).length + 1)->(env1 10).v=.int .i64 (RE LC.id (kX l more z i)).length->mem1 41 N=some (xA ((RE LC.id (kX l more z i)++[m]).map jA))->N<nx1->∀ k1:Ex->pA->Option RV,(∀ s',(s'.env 0).v=.sl b0 (l.map jA)->(s'.env 1).v=.int .i64 z->(s'.env 8).v=.sl false ((l++more).map jA)->(s'.env 9).v=.int .i64 i->L8 (RE LC.id (kX l more z (i + 1))) s'->k1 (.exit 2) s'=some rv)->zF E5 E9 UE ⟨env1,mem1,nx1,obj1,gh1⟩ k1=some rv:=fun h env1 mem1 nx1 obj1 gh1 N a0 a1 a8 a9 a7 a10 am aN k1 ge=>by
   have da:=E3 (kX l more z i);have hkl:=skp_len l more z i;refine sbub_lp (O:=RE LC.id (kX l more z i)) (x:=m) (srt_les_s _) (by omega) _ a0 a1 a8 a9 a7 a10 am aN _ (fun s' h0 h1 h8 h9 h7 h2 h3=>ge s' h0 h1 h8 h9 ?_);rw [h,X8];refine .inr ⟨N,?_,?_,h2,h3⟩
   ·intro e;have:=congrArg List.length e;rw [IJ] at this;simp at this
   ·rw [IJ]; exact h7
  have da:=E3 (kX l more z i);have hkl:=skp_len l more z i;generalize hP:RE LC.id (kX l more z i)=P at *
  have ga:RA 24 (P.length + 1)=true:=by rw [sA]; omega
  have xj:RA 24 1=true:=by rw [sA]; omega
  have hwp:IntKind.i64.wrap (((P.length:Int) + 1) - 1)=(P.length:Int):=by rw [IntWalk.i64_in _ (by omega)]; omega
  have zm:IntKind.i64.wrap (P.length:Int)=(P.length:Int):=IntWalk.i64_in _ (by omega);have my:IntKind.i64.wrap 0=0:=by decide
  have xb:=LB (pD P) (aE _ _ fun _=>rfl);rw [y7] at xb;have happ:xA (P.map jA)++xA [jA m]=xA ((P++[m]).map jA):=by rw [<- cK]; simp
  have gu:P.map jA++[jA m]=(P++[m]).map jA:=by simp
  have ik:(P.map jA).length=P.length:=y7 _;simp only [jA] at gu;by_cases zf:i<l.length
  ·have ai:(i:Int)<l.length:=by omega
   have hml1:l[i]?=some m:=by rw [yL zf] at hm; exact hm
   have nj:=skp_lt (more:=more) (z:=z) hml1;by_cases hz:m.id=z
   ·rw [if_pos hz] at nj;rw [nj,hP] at wa;generalize kg:(l++more).map jA=ma at *
    generalize ud:l.map jA=mb at *
    simp [mD,-J,-y6,-y5,y0,-aA,-uA,wA,tA,eA,qA,e0,e1,e8,e9,ea,kb,pj,zf,ai,g1,hz,hw];refine wa _ ⟨by simp [e0],by simp [e1],by simp [e8],by simp,by exact hO.of (by simp) rfl (by dsimp only; omega)⟩
   ·rw [if_neg hz] at nj;have zj:=lay nj;rcases hO with ⟨rfl,e7⟩ | ⟨N,za,e7,mN,hN⟩
    ·dsimp only at e7;generalize kg:(l++more).map jA=ma at *
     generalize ud:l.map jA=mb at *
     simp [mD,-J,-y6,-y5,y0,-aA,-uA,wA,tA,eA,qA,e0,e1,e7,e8,e9,ea,kb,pj,zf,ai,hz,g1,xj,ZG,cB];refine zj _ _ _ _ _ (nx + 2) (by simp [e0]) (by simp [e1]) (by simp [e8]) (by simp [e9]) (by simp) (by simp [zm,my]) (by simp [kA,jA]) (by omega) _ (fun s' a0 a1 a8 a9 aO=>?_);obtain ⟨env',oa,nx',nb,mg⟩:=s';dsimp only at a0 a1 a8 a9;simp [-J,-y6,-y5,y0,-aA,-uA,wA,tA,eA,qA,a9,hw];exact wa _ ⟨by simp [a0],by simp [a1],by simp [a8],by simp,by exact aO.of (by simp) rfl (by dsimp only; omega)⟩
    ·dsimp only at e7 mN hN;have hpe:P.length≠0:=fun h=>za (List.length_eq_zero_iff.1 h)
     have pe:=xb;generalize ja:xA (P.map jA)=row at xb mN;generalize kg:(l++more).map jA=ma at *
     generalize ud:l.map jA=mb at *
     simp [mD,-J,-y6,-y5,y0,-aA,-uA,wA,tA,eA,qA,e0,e1,e7,e8,e9,mN,xb,ea,kb,pj,zf,ai,hz,g1,ga,ik,hwp,ZG,cB];refine zj _ _ _ _ _ (nx + 2) (by simp [e0]) (by simp [e1]) (by simp [e8]) (by simp [e9]) (by simp) (by simp [zm,my]) (by simp [kA,jA]) (by omega) _ (fun s' a0 a1 a8 a9 aO=>?_);obtain ⟨env',oa,nx',nb,mg⟩:=s';dsimp only at a0 a1 a8 a9;simp [-J,-y6,-y5,y0,-aA,-uA,wA,tA,eA,qA,a9,hw];exact wa _ ⟨by simp [a0],by simp [a1],by simp [a8],by simp,by exact aO.of (by simp) rfl (by dsimp only; omega)⟩
  ·have ai:¬ (i:Int)<l.length:=by omega
   have hm1:more[i - l.length]?=some m:=by rw [yE (by omega)] at hm; exact hm
   have zj:=lay (skp_ge (by omega) hm1);rcases hO with ⟨rfl,e7⟩ | ⟨N,za,e7,mN,hN⟩
   ·dsimp only at e7;generalize kg:(l++more).map jA=ma at *
    generalize ud:l.map jA=mb at *
    simp [mD,-J,-y6,-y5,y0,-aA,-uA,wA,tA,eA,qA,e0,e1,e7,e8,e9,ea,kb,pj,zf,ai,g1,xj,ZG,cB];refine zj _ _ _ _ _ (nx + 2) (by simp [e0]) (by simp [e1]) (by simp [e8]) (by simp [e9]) (by simp) (by simp [zm,my]) (by simp [kA,jA]) (by omega) _ (fun s' a0 a1 a8 a9 aO=>?_);obtain ⟨env',oa,nx',nb,mg⟩:=s';dsimp only at a0 a1 a8 a9;simp [-J,-y6,-y5,y0,-aA,-uA,wA,tA,eA,qA,a9,hw];exact wa _ ⟨by simp [a0],by simp [a1],by simp [a8],by simp,by exact aO.of (by simp) rfl (by dsimp only; omega)⟩
   ·dsimp only at e7 mN hN;have hpe:P.length≠0:=fun h=>za (List.length_eq_zero_iff.1 h)
    have pe:=xb;generalize ja:xA (P.map jA)=row at xb mN;generalize kg:(l++more).map jA=ma at *
    generalize ud:l.map jA=mb at *
    simp [mD,-J,-y6,-y5,y0,-aA,-uA,wA,tA,eA,qA,e0,e1,e7,e8,e9,mN,xb,ea,kb,pj,zf,ai,g1,ga,ik,hwp,ZG,cB];refine zj _ _ _ _ _ (nx + 2) (by simp [e0]) (by simp [e1]) (by simp [e8]) (by simp [e9]) (by simp) (by simp [zm,my]) (by simp [kA,jA]) (by omega) _ (fun s' a0 a1 a8 a9 aO=>?_);obtain ⟨env',oa,nx',nb,mg⟩:=s';dsimp only at a0 a1 a8 a9;simp [-J,-y6,-y5,y0,-aA,-uA,wA,tA,eA,qA,a9,hw];exact wa _ ⟨by simp [a0],by simp [a1],by simp [a8],by simp,by exact aO.of (by simp) rfl (by dsimp only; omega)⟩
 ·have bd:i=(l++more).length:=by omega
  have ge:kX l more z i=l.filter (fun m=>!decide (m.id=z))++more:=by
   unfold kX;rw [yb] at bd;rw [yS (by omega),yS (by omega)]
  rw [ge] at hO;have ea:¬ (i:Int)<(l.length:Int) + (more.length:Int):=by rw [yb] at bd; omega
  generalize kg:(l++more).map jA=ma at *
  simp [mD,-J,-y6,-y5,y0,-aA,-uA,wA,tA,eA,qA,e8,e9,kb,ea];exact hk _ _ ⟨rfl,by exact hO.of (by simp) rfl (by dsimp only; omega)⟩
theorem LZ (l more:List LC) (z:Int) (b0 b2:Bool) (hl:l.length + more.length<=900):cW 118 [.sl b0 (l.map jA),.int .i64 z,.sl b2 (more.map jA)] (.sl (RE LC.id (l.filter (fun m=>!decide (m.id=z))++more)).isEmpty ((RE LC.id (l.filter (fun m=>!decide (m.id=z))++more)).map jA)):=by
 have kb:(l.map jA).length=l.length:=y7 _;have wy:(more.map jA).length=more.length:=y7 _;have w1:=pD l;have w2:=pD more;have w3:=pD (l++more);have r1:RA 24 l.length=true:=by rw [sA]; omega
 have r2:RA 24 (l.length + more.length)=true:=by rw [sA]; omega
 have nc:l.map jA++more.map jA=(l++more).map jA:=(List.map_append ..).symm;have q:=fun (r:RV)=>@sout_lp r l more z b0 hl
 refine wC aK rfl rfl ?_;obtain ⟨R,hR⟩:∃ R,R=RE LC.id (l.filter (fun m=>!decide (m.id=z))++more):=⟨_,rfl⟩;rw [<- hR] at q ⊢;have xb:=LB (pD R) (aE _ _ fun _=>rfl);rw [y7] at xb;generalize kg:l.map jA=ma at *
 generalize ud:more.map jA=mb at *
 generalize hmc:(l++more).map jA=mc at *
 simp [aK,-J,-y6,-y5,y0,-aA,-uA,wA,tA,eA,qA,kb,wy,w1,w2,w3,r1,r2,nc];refine q _ _ (by simp) (by simp) (by simp) (by simp) (by simp) _ (fun s' hO=>?_);rcases hO with ⟨rfl,e7⟩ | ⟨N,za,e7,mN,hN⟩
 ·simp [-J,-y6,-y5,y0,-aA,-uA,wA,tA,eA,qA,e7]
 ·generalize ja:xA (R.map jA)=row at *
  have he:R.isEmpty=false:=by cases hr:R with | nil=>exact absurd hr za | cons=>rfl
  simp [-J,-y6,-y5,y0,-aA,-uA,wA,tA,eA,qA,e7,mN,xb,he]
def wK (t:QA) (z:Int) (more:List fB):List fB:=RE fB.id (t.mems.filter (fun m=>!decide (m.id=z))++more)
def tM (t:QA) (z:Int) (more:List LC):List LC:=RE LC.id (t.syms.filter (fun m=>!decide (m.id=z))++more)
def mH (t:QA) (e:RB):QA :=
 if e.kind=1 then { t with mems:=wK t e.mem.id [e.mem],mn:=(wK t e.mem.id [e.mem]).isEmpty }
 else if e.kind=3 then { t with mems:=wK t e.mem.id [e.mem],mn:=(wK t e.mem.id [e.mem]).isEmpty }
 else if e.kind=2 then { t with mems:=wK t e.id [],mn:=(wK t e.id []).isEmpty }
 else if e.kind=4 then { t with syms:=tM t e.sym.id [e.sym],sn:=(tM t e.sym.id [e.sym]).isEmpty }
 else if e.kind=5 then { t with syms:=tM t e.id [],sn:=(tM t e.id []).isEmpty }
 else if e.kind=6 then { t with name:=e.name }
 else if e.kind=7 then (if t.kind=2 then { t with low:=e.low,high:=e.high } else { t with max:=e.max })
 else if e.kind=8 then { t with opn:=e.opn }
 else { t with elem:=e.elem,key:=if t.kind=8 then e.key else t.key }
theorem Q9 (t:QA) (z:Int) (more:List fB) (b:Bool) (hl:t.mems.length + more.length<=900):cW 117 [.sl t.mn (t.mems.map fA),.int .i64 z,.sl b (more.map fA)] (.sl (wK t z more).isEmpty ((wK t z more).map fA)):=KZ t.mems more z t.mn b hl
theorem I9 (t:QA) (z:Int) (more:List LC) (b:Bool) (hl:t.syms.length + more.length<=900):cW 118 [.sl t.sn (t.syms.map jA),.int .i64 z,.sl b (more.map jA)] (.sl (tM t z more).isEmpty ((tM t z more).map jA)):=LZ t.syms more z t.sn b hl
theorem edited_ev (t:QA) (e:RB) (h1:t.mems.length<=800) (h2:t.syms.length<=800):cW 79 [.agg (iA t),.agg (tC e)] (.agg (iA (mH t e))):=by
 have m1:=Q9 t e.mem.id [e.mem] false (by simp; omega);have m2:=Q9 t e.id [] true (by simp; omega);have s1:=I9 t e.sym.id [e.sym] false (by simp; omega);have s2:=I9 t e.id [] true (by simp; omega);simp only [cW,yk,yR] at m1 m2 s1 s2;unfold mH;generalize wK t e.mem.id [e.mem]=M1 at *
 generalize wK t e.id []=M2 at *
 generalize tM t e.sym.id [e.sym]=S1 at *
 generalize tM t e.id []=S2 at *
 simp only [fA,jA] at m1 s1;refine wC tB rfl rfl ?_;by_cases a1:e.kind=1
 ·simp [tB,-J,-y6,-y5,y0,-aA,-uA,wA,tA,eA,qA,iA,tC,fA,jA,tA,wA,qA,eA,a1,m1]
 by_cases a3:e.kind=3
 ·simp [tB,-J,-y6,-y5,y0,-aA,-uA,wA,tA,eA,qA,iA,tC,fA,jA,tA,wA,qA,eA,a3,m1]
 by_cases a2:e.kind=2
 ·simp [tB,-J,-y6,-y5,y0,-aA,-uA,wA,tA,eA,qA,iA,tC,fA,jA,tA,wA,qA,eA,a2,m2]
 by_cases a4:e.kind=4
 ·simp [tB,-J,-y6,-y5,y0,-aA,-uA,wA,tA,eA,qA,iA,tC,fA,jA,tA,wA,qA,eA,a4,s1]
 by_cases a5:e.kind=5
 ·simp [tB,-J,-y6,-y5,y0,-aA,-uA,wA,tA,eA,qA,iA,tC,fA,jA,tA,wA,qA,eA,a5,s2]
 by_cases a6:e.kind=6
 ·simp [tB,-J,-y6,-y5,y0,-aA,-uA,wA,tA,eA,qA,iA,tC,fA,jA,tA,wA,qA,eA,a6]
 by_cases a7:e.kind=7
 ·by_cases k2:t.kind=2
  ·simp [tB,-J,-y6,-y5,y0,-aA,-uA,wA,tA,eA,qA,iA,tC,fA,jA,tA,wA,qA,eA,a7,k2]
  ·simp [tB,-J,-y6,-y5,y0,-aA,-uA,wA,tA,eA,qA,iA,tC,fA,jA,tA,wA,qA,eA,a7,k2]
 by_cases a8:e.kind=8
 ·simp [tB,-J,-y6,-y5,y0,-aA,-uA,wA,tA,eA,qA,iA,tC,fA,jA,tA,wA,qA,eA,a8]
 by_cases k8:t.kind=8
 ·simp [tB,-J,-y6,-y5,y0,-aA,-uA,wA,tA,eA,qA,iA,tC,fA,jA,tA,wA,qA,eA,a1,a2,a3,a4,a5,a6,a7,a8,k8]
 ·simp [tB,-J,-y6,-y5,y0,-aA,-uA,wA,tA,eA,qA,iA,tC,fA,jA,tA,wA,qA,eA,a1,a2,a3,a4,a5,a6,a7,a8,k8]
theorem z6 {l:List fB} {z:Int}:MK l z=true ↔ ∃ m∈l,m.id=z:=by
 unfold MK;rw [List.any_eq_true];exact ⟨fun ⟨m,h1,h2⟩=>⟨m,h1,of_decide_eq_true h2⟩,fun ⟨m,h1,h2⟩=>⟨m,h1,decide_eq_true h2⟩⟩
theorem m6 {l:List LC} {z:Int}:QP l z=true ↔ ∃ m∈l,m.id=z:=by
 unfold QP;rw [List.any_eq_true];exact ⟨fun ⟨m,h1,h2⟩=>⟨m,h1,of_decide_eq_true h2⟩,fun ⟨m,h1,h2⟩=>⟨m,h1,decide_eq_true h2⟩⟩
theorem N1 {α:Type} {f:α->Int} {l:List α} {z:Int} (h:¬ ∃ m∈l,f m=z):l.filter (fun m=>!decide (f m=z))=l:=List.filter_eq_self.2 fun m hm=>by
 have:¬ f m=z:=fun e=>h ⟨m,hm,e⟩
 simp [this]
theorem B5 {t:QA} {e:RB} (ha:eP t) (h:(mA t e).1=0):(mH t e).bare=(mA t e).2.bare:=by
 obtain ⟨h1,h2⟩:=ha;have nc:¬ GB e.kind t.kind=false:=fun hf=>by
  unfold mA at h;rw [if_pos hf] at h;simp at h
 unfold mA at h ⊢;rw [if_neg nc] at h ⊢;unfold mH;by_cases a1:e.kind=1
 ·rw [if_pos a1] at h;rw [if_pos a1,if_pos a1];by_cases g:MK t.mems e.mem.id=true
  ·rw [if_pos g] at h; simp at h
  ·rw [if_neg g];have:wK t e.mem.id [e.mem]=CE fB.id e.mem t.mems:=by
    unfold wK;rw [N1 (f:=fB.id) (fun hh=>g (z6.2 hh)),JT _ h1]
   rw [this];rfl
 rw [if_neg a1] at h;rw [if_neg a1,if_neg a1];by_cases a2:e.kind=2
 ·have a3:¬ e.kind=3:=by omega
  rw [if_neg a3,if_pos a2,if_pos a2];rw [if_pos a2] at h;by_cases g:MK t.mems e.id=true
  ·rw [if_pos g];have:wK t e.id []=t.mems.filter fun m=>!decide (m.id=e.id):=by
    unfold wK;rw [yz,IZ (KI _ h1)]
   rw [this];rfl
  ·rw [if_neg g] at h; simp at h
 rw [if_neg a2] at h;rw [if_neg a2,if_neg a2];by_cases a3:e.kind=3
 ·rw [if_pos a3,if_pos a3];rw [if_pos a3] at h;by_cases g:MK t.mems e.mem.id=true
  ·rw [if_pos g];have:wK t e.mem.id [e.mem]=t.mems.map fun m=>if m.id=e.mem.id then e.mem else m:=by
    unfold wK;rw [JT _ (KI _ h1),lU h1 (z6.1 g)]
   rw [this];rfl
  ·rw [if_neg g] at h; simp at h
 rw [if_neg a3] at h;rw [if_neg a3,if_neg a3];by_cases a4:e.kind=4
 ·rw [if_pos a4,if_pos a4];by_cases g:QP t.syms e.sym.id=true
  ·rw [if_pos g];have:tM t e.sym.id [e.sym]=t.syms.map fun m=>if m.id=e.sym.id then e.sym else m:=by
    unfold tM;rw [JT _ (KI _ h2),lU h2 (m6.1 g)]
   rw [this];rfl
  ·rw [if_neg g];have:tM t e.sym.id [e.sym]=CE LC.id e.sym t.syms:=by
    unfold tM;rw [N1 (f:=LC.id) (fun hh=>g (m6.2 hh)),JT _ h2]
   rw [this];rfl
 rw [if_neg a4] at h;rw [if_neg a4,if_neg a4];by_cases a5:e.kind=5
 ·rw [if_pos a5,if_pos a5];rw [if_pos a5] at h;by_cases g:QP t.syms e.id=true
  ·rw [if_pos g];have:tM t e.id []=t.syms.filter fun m=>!decide (m.id=e.id):=by
    unfold tM;rw [yz,IZ (KI _ h2)]
   rw [this];rfl
  ·rw [if_neg g] at h; simp at h
 rw [if_neg a5,if_neg a5];by_cases a6:e.kind=6
 ·rw [if_pos a6,if_pos a6]
 rw [if_neg a6,if_neg a6];by_cases a7:e.kind=7
 ·rw [if_pos a7,if_pos a7];split <;> rfl
 rw [if_neg a7,if_neg a7];by_cases a8:e.kind=8
 ·rw [if_pos a8,if_pos a8]
 rw [if_neg a8,if_neg a8]
def ED:List QA->List QA->Bool
 | [],[]=>true
 | x :: l,y :: m=>decide (x.kind=y.kind)&&ED l m
 | [],_ :: _=>false
 | _ :: _,[]=>false
theorem ER:∀ l m:List QA,l.length≠m.length->ED l m=false
 | [],[],h=>absurd rfl h
 | x :: l,y :: m,h=>by rw [ED,ER l m (fun e=>h (by simp [e])),Bool.and_false]
 | [],_ :: _,_=>rfl
 | _ :: _,[],_=>rfl
theorem eqk_lp (F:Nat) (l m:List QA) (hl:l.length<=9223372036854775807) (he:l.length=m.length) (hF:∀ x∈l,∀ y∈m,wB F [.agg (iA x),.agg (iA y)] (.bool (decide (x.kind=y.kind)))) (b1 b2:Bool) (r:RV) (k:Ex->pA->Option RV) (hk:∀ s',ED l m=true->k (.exit 0) s'=some r) (hr:∀ s':pA,ED l m=false->(s'.env 6).v=.bool false->k .ret s'=some r) :
  ∀ (n i:Nat),i + n=l.length->ED (l.drop i) (m.drop i)=ED l m->∀ s':pA,(s'.env 1).v=.sl b2 (m.map iA)->(s'.env 2).v=.fn F []->(s'.env 15).v=.sl b1 (l.map iA)->(s'.env 16).v=.int .i64 l.length->(s'.env 17).v=.int .i64 i->zF lA dA SB s' k=some r:=by
 intro n
 induction n with
 | zero =>
  intro i hi hf s' e1 e2 bj gk sq;have ba:¬ ((i:Int)<l.length):=by omega
  refine gA ?_;simp [SB,-J,iB,y0,gk,sq,ba];refine hk _ ?_;rw [<- hf,yn (by omega),yn (by omega),ED]
 | succ n ih =>
  intro i hi hf s' e1 e2 bj gk sq;have ba:(i:Int)<l.length:=by omega
  have jg:i<l.length:=by omega
  have ne:i<m.length:=by omega
  have hw:=eB (i:=i);have g1:(l.map iA)[i]?=some (iA l[i]):=by simp [jg]
  have g2:(m.map iA)[i]?=some (iA m[i]):=by simp [ne]
  have hx:=hF l[i] (yF _) m[i] (yF _);rw [yj jg,yj ne,ED] at hf;generalize l[i]=x at *
  generalize m[i]=y at *
  simp only [wB,iA] at g1 g2 hx;refine gA ?_;cases h1:decide (x.kind=y.kind) with
  | true =>
   rw [h1] at hx hf;simp [SB,-J,iB,y0,e1,e2,bj,gk,sq,ba,g1,g2,ZE,kD,hx,hw];refine ih (i + 1) (by omega) (by simpa using hf) _ ?_ ?_ ?_ ?_ ?_ <;> simp [*]
  | false =>
   rw [h1] at hx hf;simp [SB,-J,iB,y0,e1,e2,bj,gk,sq,ba,g1,g2,ZE,kD,hx];exact hr _ (by simpa using hf.symm) (by simp)
theorem eqk_ev (F:Nat) (l m:List QA) (hl:l.length<=9223372036854775807) (hF:∀ x∈l,∀ y∈m,wB F [.agg (iA x),.agg (iA y)] (.bool (decide (x.kind=y.kind)))) (b1 b2:Bool):wB 41 [.sl b1 (l.map iA),.sl b2 (m.map iA),.fn F []] (.bool (ED l m)):=by
 refine EA (c:=iC) rfl rfl ?_;by_cases he:l.length=m.length
 ·simp [iC,-J,iB,y0,he];refine eqk_lp F l m hl he hF b1 b2 _ _ (fun s' hf=>?main) (fun s' hf h4=>?main2) l.length 0 (by simp) (by simp) _ ?_ ?_ ?_ ?_ ?_
  case main=>simp [-J,iB,y0,hf]
  case main2=>simp [-J,iB,y0,hf,h4]
  all_goals simp [he]
 ·have kh:¬ (l.length:Int)=m.length:=by omega
  simp [iC,-J,iB,y0,kh,ER l m he]
theorem kind1_eq (x y:QA):wB 42 [.agg (iA x),.agg (iA y)] (.bool (decide (x.kind=y.kind))):=by
 refine EA (c:=GG) rfl rfl ?_;simp [GG,-J,-y6,-y5,y0,iA]
theorem FX (n:Int) (x y:QA) (h1:x.mems.length<=40) (h2:y.mems.length<=40) (h3:x.syms.length<=40) (h4:y.syms.length<=40):(AS n x y).length<=244:=by
 have l1:=JJ (x.name=y.name) (uU n y.name);have l2:=JJ (x.low=y.low/\x.high=y.high/\x.max=y.max) (tU n y.low y.high y.max);have l3:=JJ (x.opn=y.opn) (iU n y.opn);have l4:=JJ (x.key=y.key/\x.elem=y.elem) (pU n y.key y.elem);have l5:=xZ n y.mems x.mems;have l6:=SX n x.mems y.mems;have l7:=mX n x.mems y.mems;have l8:=HX n y.syms x.syms;have l9:=SZ n x.syms y.syms;have l10:=syaL_len n x.syms y.syms;simp only [AS,tW,yb];omega
def DJ:Nat->List QA->List QA->List RB
 | i,x :: l,y :: m=>AS i x y++DJ (i + 1) l m
 | _,_,_=>[]
def OutB (L:List RB) (v:rA):Prop:=v.v=wH L/\(L=[]\/∃ k,v.a=.own k 52)
def XJ (t:QA):Prop:=t.mems.length<=40/\t.syms.length<=40/\(∀ m∈t.mems,m.ok)/\∀ m∈t.mems,m.dflt.lay
structure DgI (a b:wP) (L:List RB) (s:pA):Prop where
 e2:(s.env 2).v=.ptr 2 1 0
 e3:(s.env 3).v=.ptr 3 1 0
 m2:s.mem 2 1=some [⟨.sl a.nl (a.types.map iA),.no⟩]
 m3:s.mem 3 1=some [⟨.sl b.nl (b.types.map iA),.no⟩]
 e9:OutB L (s.env 9)
theorem diff_lp {rv:RV} {a b:wP} (ha:a.types.length<=100) (og:a.types.length=b.types.length) (jw:∀ t∈a.types,XJ t) (ft:∀ t∈b.types,XJ t) (s:pA) (h:DgI a b [] s) (e_n:(s.env 33).v=.int .i64 a.types.length) (e_c:(s.env 34).v=.int .i64 0) (k:Ex->pA->Option RV)
  (hk:∀ s',DgI a b (DJ 0 a.types b.types) s'->k (.exit 2) s'=some rv):zF sB BA rF s k=some rv:=by
 refine QE a.types.length (fun i s=>(s.env 33).v=.int .i64 a.types.length/\(s.env 34).v=.int .i64 i/\∃ L,DgI a b L s/\L.length<=244 * i/\L++DJ i (a.types.drop i) (b.types.drop i)=DJ 0 a.types b.types) (fun e s=>e=.exit 2/\DgI a b (DJ 0 a.types b.types) s) (fun i hi s k h ih hk=>?_) _ _ ⟨e_n,e_c,[],h,by simp,by simp⟩ (fun e s h=>by obtain ⟨rfl,h⟩:=h; exact hk _ h);obtain ⟨e_n,e_c,L,hI,hn,ni⟩:=h;obtain ⟨env,mem,nx,obj,gh⟩:=s;obtain ⟨e2,e3,m2,m3,e9,a9⟩:=hI;dsimp only at e_n e_c e2 e3 m2 m3 e9 a9;refine gA ?_;by_cases ba:i<a.types.length
 ·have ea:(i:Int)<a.types.length:=by omega
  have hw:=eB (i:=i);have ne:i<b.types.length:=by omega
  have hx:=yF ba;have hy:=yF ne;have g1:(a.types.map iA)[i]?=some (iA a.types[i]):=by rw [yc,yg ba]; rfl
  have g2:(b.types.map iA)[i]?=some (iA b.types[i]):=by rw [yc,yg ne]; rfl
  rw [yj ba,yj ne,DJ] at ni;obtain ⟨x1,x2,x3,x4⟩:=jw _ hx;obtain ⟨y1,y2,y3,y4⟩:=ft _ hy;have hd:=differ_ev i a.types[i] b.types[i] x1 y1 x2 y2 x3 y4;have pg:=FX i a.types[i] b.types[i] x1 y1 x2 y2;generalize a.types[i]=x at *
  generalize b.types[i]=y at *
  simp only [pQ,wH,iA] at hd;simp only [iA] at g1 g2;have kb:(a.types.map iA).length=a.types.length:=y7 _;have nh:(b.types.map iA).length=b.types.length:=y7 _;have htot':=ni;generalize AS i x y=M at *
  have ga:RA 272 (L.length + M.length)=true:=by rw [sA]; omega
  have gb:=sC L;have jm:=sC M;have wb:(L.map tC).length=L.length:=y7 _;have xx:(M.map tC).length=M.length:=y7 _;have wa:=ih ba;have fc:(M.map tC).isEmpty=M.isEmpty:=by cases M <;> rfl
  simp only [wH] at e9;generalize kg:a.types.map iA=ma at *
  generalize ud:b.types.map iA=mb at *
  by_cases h0:L=[]
  ·subst h0;have ga:RA 272 M.length=true:=by rw [sA]; omega
   simp [rF,-J,-y6,-y5,y0,iB,e_n,e_c,e2,e3,m2,m3,e9,ea,hw,kb,nh,g1,g2,hd,ga,jm,xx,fc];refine wa _ ⟨by simp [e_n],by simp,M,⟨by simp [e2],by simp [e3],by simp [m2,kg],by simp [m3,ud],by simp [wH],.inr ⟨50,by simp⟩⟩,by omega,ni⟩
  ·obtain ⟨kk,a9⟩:=a9.resolve_left h0;have he:L.isEmpty=false:=by cases L with | nil=>exact absurd rfl h0 | cons=>rfl
   rw [he] at e9;simp [rF,-J,-y6,-y5,y0,iB,e_n,e_c,e2,e3,m2,m3,e9,a9,ea,hw,kb,nh,wb,g1,g2,hd,ga,gb,jm,xx,fc];refine wa _ ⟨by simp [e_n],by simp,L++M,⟨by simp [e2],by simp [e3],by simp [m2,kg],by simp [m3,ud],by simp [wH,h0],.inr ⟨50,by simp⟩⟩,by rw [yb]; omega,by rw [yo]; exact ni⟩
 ·have ea:¬ (i:Int)<a.types.length:=by omega
  rw [yn (by omega),DJ,yz] at ni
  ·subst ni;simp [rF,-J,-y6,-y5,y0,e_c,e_n,ea];exact hk _ _ ⟨rfl,by simp [e2],by simp [e3],m2,m3,by simpa using e9,by simpa using a9⟩
  ·intro x l y m h;cases h
def DH (a b:wP):AV :=
 if EB a.types≠0 then .tup [.sl true [],.int .i64 (EB a.types)]
 else if EB b.types≠0 then .tup [.sl true [],.int .i64 (EB b.types)]
 else if ED a.types b.types=true then .tup [wH (DJ 0 a.types b.types),.int .i64 0] else .tup [.sl true [],.int .i64 1]
theorem F2:∀ l m:List QA,ED l m=true->l.length=m.length
 | [],[],_=>rfl
 | x :: l,y :: m,h=>by
  rw [ED,ye] at h;simp [F2 l m h.2]
 | [],_ :: _,h=>by cases h
 | _ :: _,[],h=>by cases h
theorem dv_lp {rv:RV} {a b:wP} (va:rD sB BA 34 [.agg (lD a)] none=some (.int .i64 (EB a.types),none)) (vb:rD sB BA 34 [.agg (lD b)] none=some (.int .i64 (EB b.types),none))
  (s:pA) (e13:(s.env 13).v=.sl false [[.sl a.nl (a.types.map iA)],[.sl b.nl (b.types.map iA)]]) (e14:(s.env 14).v=.int .i64 2) (bj:(s.env 15).v=.int .i64 0) (k:Ex->pA->Option RV)
  (h1:EB a.types≠0->∀ s':pA,(s'.env 4).v=.sl true []->(s'.env 5).v=.int .i64 (EB a.types)->k .ret s'=some rv)
  (h2:EB a.types=0->EB b.types≠0->∀ s':pA,(s'.env 4).v=.sl true []->(s'.env 5).v=.int .i64 (EB b.types)->k .ret s'=some rv)
  (h3:EB a.types=0->EB b.types=0->∀ s':pA,(s'.env 2).v=(s.env 2).v->(s'.env 3).v=(s.env 3).v->s'.mem 2 1=s.mem 2 1->s'.mem 3 1=s.mem 3 1->k (.exit 0) s'=some rv):zF sB BA QC s k=some rv:=by
 obtain ⟨env,mem,nx,obj,gh⟩:=s;dsimp only at e13 e14 bj h3;simp only [lD] at va vb;have wl:IntKind.i64.wrap 1=1:=by decide
 have hw2:IntKind.i64.wrap 2=2:=by decide
 refine gA ?_;by_cases c1:EB a.types=0
 ·have va':=va;rw [c1] at va';simp [QC,-J,-y6,-y5,y0,e13,e14,bj,va',wl];refine gA (b:=QC) ?_;by_cases c2:EB b.types=0
  ·have vb':=vb;rw [c2] at vb';simp [QC,-J,-y6,-y5,y0,e13,e14,vb',wl,hw2];refine gA (b:=QC) ?_;simp [QC,-J,-y6,-y5,y0,e14];exact h3 c1 c2 _ (by simp) (by simp) (by simp) (by simp)
  ·simp [QC,-J,-y6,-y5,y0,e13,e14,vb,wl,hw2,c2];exact h2 c1 c2 _ (by simp) (by simp)
 ·simp [QC,-J,-y6,-y5,y0,e13,e14,bj,va,c1];exact h1 c1 _ (by simp) (by simp)
theorem diff_ev (a b:wP) (ha:a.fine) (hb:b.fine) (jw:EB a.types=0->a.types.length<=100/\∀ t∈a.types,XJ t) (ft:EB b.types=0->∀ t∈b.types,XJ t):pQ 17 [.agg (lD a),.agg (lD b)] (DH a b):=by
 have va:=LE (XT a ha);have vb:=LE (XT b hb);have hk:=LE (eqk_ev 42 a.types b.types ha.1 (fun x _ y _=>kind1_eq x y) a.nl b.nl);simp only [pQ] at hk;refine wC rH rfl rfl ?_;simp [rH,-J,-y6,-y5,y0,lD];refine dv_lp va vb _ (by simp) (by simp) (by simp) _ (fun c1 s' a1 a2=>?_) (fun c1 c2 s' a1 a2=>?_) (fun c1 c2 s' a1 a2 a3 a4=>?_)
 ·simp [-J,-y6,-y5,y0,a1,a2,DH,c1]
 ·simp [-J,-y6,-y5,y0,a1,a2,DH,c1,c2]
 ·obtain ⟨l1,l2⟩:=jw c1;have l3:=ft c2;obtain ⟨env,mem,nx,obj,gh⟩:=s';simp at a1 a2 a3 a4;have kb:(a.types.map iA).length=a.types.length:=y7 _;by_cases c3:ED a.types b.types=true
  ·have og:=F2 _ _ c3;have io:=fun rv:RV=>@diff_lp rv a b l1 og l2 l3
   rw [c3] at hk;simp [-J,-y6,-y5,y0,a1,a2,a3,a4,hk,kb];refine io _ _ ⟨by simp [a1],by simp [a2],by simp [a3],by simp [a4],by simp [wH],.inl rfl⟩ (by simp) (by simp) _ (fun s' h'=>?_);have e9:=h'.e9.1;simp [-J,-y6,-y5,y0,e9,DH,c1,c2,c3,wH]
  ·rw [Bool.eq_false_iff.2 c3] at hk;simp [-J,-y6,-y5,y0,a1,a2,a3,a4,hk,kb,DH,c1,c2,c3]
theorem Z3:∀ (l:List (Int × ByteArray)) (b:Int) (seen:List ByteArray),UC b seen l=true->(∀ x∈l,b<x.1)/\l.Pairwise fun x y=>x.1<y.1
 | [],_,_,_=>by simp
 | (n,s) :: r,b,seen,h=>by
  simp only [UC,ye] at h;obtain ⟨⟨⟨h1,_⟩,_⟩,h2⟩:=h;have hb:b<n:=by unfold qT at h1; simp at h1; omega
  obtain ⟨g1,g2⟩:=Z3 r n _ h2;refine ⟨fun x hx=>?_,List.pairwise_cons.2 ⟨fun y hy=>g1 y hy,g2⟩⟩;rcases yw.1 hx with rfl | hx
  ·exact hb
  ·have:=g1 x hx; omega
theorem ents_m {l:List fB} (h:UC 0 [] (l.map HF)=true):iM fB.id l:=by
 have:=(Z3 _ _ _ h).2;rw [List.pairwise_map] at this;exact this
theorem ents_s {l:List LC} (h:UC 0 [] (l.map eH)=true):iM LC.id l:=by
 have:=(Z3 _ _ _ h).2;rw [List.pairwise_map] at this;exact this
theorem E2 {x:QA} (h:zD x=true):eP x/\x.mems.length<=16/\x.syms.length<=16:=by
 unfold zD at h;rw [ye,ye] at h;obtain ⟨_,h1,h2⟩:=h;have wu:¬ x.kind=5->¬ x.kind=6->x.mems=[]:=fun k5 k6=>by
  have e:x.left.mems=x.mems:=by
   unfold QA.left;simp only [if_neg k5,if_neg k6]
   repeat' split
   all_goals rfl
  have hm:MB x.left.mems []=true:=by simp only [QA.same,ye] at h2; exact h2.2
  rw [e] at hm;cases hx:x.mems with
  | nil=>rfl
  | cons m r=>rw [hx] at hm; simp [MB] at hm
 have mo:¬ x.kind=4->x.syms=[]:=fun k4=>by
  have e:x.left.syms=x.syms:=by
   unfold QA.left;simp only [if_neg k4]
   repeat' split
   all_goals rfl
  have hm:x.left.syms=[]:=by simp only [QA.same,ye,decide_eq_true_eq] at h2; exact h2.1.2
  rw [<- e,hm]
 have main:∀ rc,dI rc x.mems=true->iM fB.id x.mems/\x.mems.length<=16:=fun rc h=>by
  unfold dI at h;simp only [ye] at h;exact ⟨ents_m h.2.2.1,of_decide_eq_true h.2.2.2⟩
 have hM:iM fB.id x.mems/\x.mems.length<=16:=by
  by_cases k5:x.kind=5
  ·simp [GO,k5] at h1; exact main true h1.2
  by_cases k6:x.kind=6
  ·simp [GO,k6] at h1; exact main false h1.2
  rw [wu k5 k6];exact ⟨List.Pairwise.nil,Nat.zero_le _⟩
 have hS:iM LC.id x.syms/\x.syms.length<=16:=by
  by_cases k4:x.kind=4
  ·simp [GO,k4,CP] at h1;exact ⟨ents_s h1.2.2.1,h1.2.2.2⟩
  rw [mo k4];exact ⟨List.Pairwise.nil,Nat.zero_le _⟩
 exact ⟨⟨hM.1,hS.1⟩,hM.2,hS.2⟩
structure gN (MP:fB->Prop) (n:Nat) (B:List QA):Prop where
 asc:∀ t∈B,eP t
 len:∀ t∈B,t.mems.length<=n/\t.syms.length<=n
 mem:∀ t∈B,∀ m∈t.mems,MP m
theorem stepT_len (t:QA) (e:RB):(mA t e).2.mems.length<=t.mems.length + 1/\(mA t e).2.syms.length<=t.syms.length + 1:=by
 have f1:=fun z=>List.length_filter_le (fun m:fB=>!decide (m.id=z)) t.mems
 have f2:=fun z=>List.length_filter_le (fun m:LC=>!decide (m.id=z)) t.syms
 have g1:=f1 e.id;have g2:=f2 e.id;unfold mA
 repeat' split
 all_goals simp only [IJ,y7] <;> omega
theorem stepT_mem (t:QA) (e:RB):∀ m∈(mA t e).2.mems,m∈t.mems\/m=e.mem:=by
  intro m hm;unfold mA at hm
  repeat' split at hm
  all_goals first
    | exact .inl hm
    | (rcases tT.1 hm with h | h; exact .inr h; exact .inl h)
    | exact .inl (List.mem_filter.1 hm).1
    | (obtain ⟨y,hy,hym⟩:=yQ.1 hm
       split at hym
       · exact .inr hym.symm
       · exact .inl (hym ▸ hy))
theorem PZ {MP:fB->Prop} {n:Nat} {B:List QA} {e:RB} (h:gN MP n B) (he:MP e.mem):gN MP (n + 1) (nC B e).2:=by
 refine ⟨stepB_asc h.asc,?_,?_⟩
 ·intro u hu;unfold nC at hu;split at hu
  ·split at hu
   ·rename_i t ht;split at hu
    ·rcases List.mem_or_eq_of_mem_set hu with hu | rfl
     ·have:=h.len u hu; omega
     ·have:=h.len t (yD ht); have:=stepT_len t e; omega
    ·have:=h.len u hu; omega
   ·have:=h.len u hu; omega
  ·have:=h.len u hu; omega
 ·intro u hu;unfold nC at hu;split at hu
  ·split at hu
   ·rename_i t ht;split at hu
    ·rcases List.mem_or_eq_of_mem_set hu with hu | rfl
     ·exact h.mem u hu
     ·intro m hm;rcases stepT_mem t e m hm with hm | rfl
      ·exact h.mem t (yD ht) m hm
      ·exact he
    ·exact h.mem u hu
   ·exact h.mem u hu
  ·exact h.mem u hu
theorem gN.up {MP:fB->Prop} {n n':Nat} {B:List QA} (h:gN MP n B) (hn:n<=n'):gN MP n' B :=
 ⟨h.asc,fun t ht=>by have:=h.len t ht; omega,h.mem⟩
theorem gN.un {MP:fB->Prop} {n:Nat} {L:List QA} (h:gN MP n (UA L)):gN MP n L :=
 ⟨fun t ht=>h.asc t.bare (List.mem_map_of_mem ht),fun t ht=>h.len t.bare (List.mem_map_of_mem ht),fun t ht=>h.mem t.bare (List.mem_map_of_mem ht)⟩
theorem gN.bare {MP:fB->Prop} {n:Nat} {L:List QA} (h:gN MP n L):gN MP n (UA L):=by
 refine ⟨fun u hu=>?_,fun u hu=>?_,fun u hu=>?_⟩
 all_goals obtain ⟨t,ht,rfl⟩:=yQ.1 hu
 ·exact h.asc t ht
 ·exact h.len t ht
 ·exact h.mem t ht
theorem step_ev (nl:Bool) (L:List QA) (e:RB) (hL:L.length<=1000) (sa:gN (fun _=>True) 800 L):∃ (b:Bool) (L':List QA),cW 39 [.agg [.sl nl (L.map iA)],.agg (tC e)] (.tup [.agg [.sl b (L'.map iA)],.int .i64 (nC L e).1])/\((nC L e).1=0->UA L'=UA (nC L e).2/\b=false)/\(¬ (nC L e).1=0->L'=[]/\b=true):=by
 have kb:(L.map iA).length=L.length:=y7 _;have zz:IntKind.i64.wrap 0=0:=by decide
 obtain ⟨R3,rp⟩:∃ R3:List rA,R3=(tC e).map (⟨·,.no⟩):=⟨_,rfl⟩;have d1:R3[1]?=some ⟨.int .i64 e.ty,.no⟩:=by rw [rp]; rfl
 have dd:aA true 25 0 R3=some ⟨.agg (tC e),.no⟩:=by rw [rp]; rfl
 have jp:(tC e).length=25:=rfl;by_cases fl:e.ty<0
 ·have hs:nC L e=(4,L):=by unfold nC; rw [if_neg (by omega)]
  refine ⟨true,[],?_,fun h=>by rw [hs] at h; simp at h,fun _=>⟨rfl,rfl⟩⟩;rw [hs];refine wC ZF rfl rfl ?_;generalize tC e=ed at *
  simp [ZF,-J,-y6,-y5,y0,-aA,-uA,wA,tA,eA,qA,wA,jp,<- rp,d1,fl,qA,tA]
 by_cases th:(L.length:Int)<=e.ty
 ·have hs:nC L e=(4,L):=by unfold nC; rw [if_pos (by omega),Y07 (by omega)]
  refine ⟨true,[],?_,fun h=>by rw [hs] at h; simp at h,fun _=>⟨rfl,rfl⟩⟩;rw [hs];refine wC ZF rfl rfl ?_;generalize tC e=ed at *
  generalize kg:L.map iA=ma at *
  simp [ZF,-J,-y6,-y5,y0,-aA,-uA,wA,tA,eA,qA,wA,jp,<- rp,d1,fl,th,kb,qA,tA]
 have h0:0<=e.ty:=by omega
 obtain ⟨t,ht⟩:∃ t,L[e.ty.toNat]?=some t:=⟨_,yg (by omega)⟩;have htm:=yD ht;obtain ⟨k1,k2⟩:=sa.len t htm;have g1:(L.map iA)[e.ty.toNat]?=some (iA t):=by rw [yc,ht]; rfl
 have nc:=DS (LE (rapp_ev t e (by omega) (by omega)));have l10:(iA t).length=10:=rfl;have fr1:(iA t).all AV.free0=true:=rfl;have fr2:(tC e).all AV.free0=true:=rfl;by_cases he:(mA t e).1=0
 case neg =>
  have hs:nC L e=((mA t e).1,L):=by unfold nC; rw [if_pos h0,ht]; simp only; rw [if_neg he]
  refine ⟨true,[],?_,fun h=>by rw [hs] at h; exact absurd h he,fun _=>⟨rfl,rfl⟩⟩;rw [hs];refine wC ZF rfl rfl ?_;simp only [cW] at nc;generalize hz:e.ty=z at *
  generalize tC e=ed at *
  generalize iA t=tc at *
  generalize kg:L.map iA=ma at *
  have ro:∀ v:List AV,v.length=10->v.take 10=v:=fun v h=>yS (by omega)
  simp [ZF,-J,-y6,-y5,y0,-aA,-uA,wA,tA,eA,qA,wA,jp,l10,<- rp,d1,dd,fl,th,h0,kb,g1,ro,fr1,fr2,nc,he,qA,tA,-y8]
 case pos =>
  have hs:nC L e=(0,L.set e.ty.toNat (mA t e).2):=by unfold nC; rw [if_pos h0,ht]; simp only; rw [if_pos he]
  refine ⟨false,L.set e.ty.toNat (mH t e),?_,fun _=>⟨?_,rfl⟩,fun h=>by rw [hs] at h; simp at h⟩
  ·rw [hs];have tz:=edited_ev t e k1 k2;have w1:=tX L;have ga:RA 120 L.length=true:=by rw [sA]; omega
   have za:(L.map iA).isEmpty=false:=by cases L with | nil=>simp at ht | cons=>rfl
   have ac:=xF w1 (k:=e.ty.toNat) (by rw [y7]; omega) (c:=iA (mH t e)) rfl .no;have tr:(L.map iA).set e.ty.toNat (iA (mH t e))=(L.set e.ty.toNat (mH t e)).map iA:=(List.map_set).symm;rw [tr] at ac;have ja:=LB (tX (L.set e.ty.toNat (mH t e))) (aY _);rw [y7,List.length_set] at ja;have fr3:(iA (mH t e)).all AV.free0=true:=rfl;have ba:e.ty.toNat<L.length:=by omega
   refine wC ZF rfl rfl ?_;rw [he] at nc;simp only [cW] at nc tz;generalize hz:e.ty=z at *
   generalize tC e=ed at *
   generalize iA t=tc at *
   generalize iA (mH t e)=te at *
   generalize (L.set z.toNat (mH t e)).map iA=mb at *
   generalize mz:xA (L.map iA)=R1 at *
   generalize hRb:xA mb=Rb at *
   generalize kg:L.map iA=ma at *
   have ro:∀ v:List AV,v.length=10->v.take 10=v:=fun v h=>yS (by omega)
   simp [ZF,-J,-y6,-y5,y0,-aA,-uA,wA,tA,eA,qA,wA,jp,l10,<- rp,d1,dd,fl,th,h0,kb,↓g1,ro,fr1,fr2,fr3,nc,tz,za,ga,w1,mz,ba,ac,ja,qA,tA,-y8]
  ·rw [hs];unfold UA;rw [List.map_set,List.map_set,B5 (sa.asc t htm) he]
theorem MD.nm {mem:Nat->Nat->Option (List rA)} {nx:Nat} {x:rA} {z:Nat} {l:List (List AV)} (h:MD mem nx x z l):∀ p∈LJ x,p.1∈KS/\p.2<nx:=by
 intro p hp;rcases h with ⟨_,b,rfl⟩ | ⟨t,n,rfl,h1,h2,_⟩
 ·simp [LJ] at hp
 ·simp [LJ] at hp;subst hp;exact ⟨h1,h2⟩
theorem nX.nm {L:List QA} {W:List (rA × rA)} {N0 nx:Nat} {V0:AV} {mem:Nat->Nat->Option (List rA)} (h:nX L W N0 nx V0 mem) {j:Nat} {w:rA × rA} (hw:W[j]?=some w):∀ p∈AI w,p.1∈KS/\p.2<nx:=by
 intro p hp;obtain ⟨t,ht⟩:∃ t,L[j]?=some t:=⟨_,yg (by have:=(yh.1 hw).1; have:=h.len; omega)⟩;obtain ⟨c1,c2⟩:=h.cell j t w ht hw;rcases yq.1 hp with hp | hp
 ·exact c1.nm p hp
 ·exact c2.nm p hp
theorem KJ:∀ {W:List (rA × rA)},(W.flatMap AI).Nodup->∀ w∈W,(AI w).Nodup
 | [],_,w,h=>by cases h
 | a :: W,wd,w,h=>by
  rw [List.flatMap_cons] at wd;obtain ⟨n1,n2,_⟩:=yN.1 wd;rcases yw.1 h with rfl | h
  ·exact n1
  ·exact KJ n2 w h
theorem PY:∀ {W:List (rA × rA)},(W.flatMap AI).Nodup->∀ {i j:Nat} {v w:rA × rA},W[i]?=some v->W[j]?=some w->i≠j->∀ p∈AI v,p ∉ AI w
 | [],_,i,j,v,w,h,_,_=>by cases h
 | a :: W,wd,i,j,v,w,h1,h2,hij=>by
  rw [List.flatMap_cons] at wd;obtain ⟨_,n2,n3⟩:=yN.1 wd;intro p hp hq;cases i with
  | zero =>
   have:a=v:=by simpa using h1
   subst this;cases j with
   | zero=>exact hij rfl
   | succ j =>
    have ug:W[j]?=some w:=by simpa using h2
    exact n3 p hp p (yV.2 ⟨w,yD ug,hq⟩) rfl
  | succ i =>
   have zo:W[i]?=some v:=by simpa using h1
   cases j with
   | zero =>
    have:a=w:=by simpa using h2
    subst this;exact n3 p hq p (yV.2 ⟨v,yD zo,hp⟩) rfl
   | succ j =>
    have ug:W[j]?=some w:=by simpa using h2
    exact PY n2 zo ug (by omega) p hp hq
theorem nX.upd {L:List QA} {W:List (rA × rA)} {N0 nx nx':Nat} {V0:AV} {mem oa:Nat->Nat->Option (List rA)} (h:nX L W N0 nx V0 mem) {k:Nat} {t t':QA} {w w':rA × rA} (ht:L[k]?=some t) (hw:W[k]?=some w) (hx:nx<=nx') (h9:oa 9 N0=some (OA (L.set k t') (W.set k w')))
  (hm:∀ tn nn l,tn∈KS->nn<nx->(tn,nn) ∉ AI w->jD l=true->mem tn nn=some (xA l)->oa tn nn=some (xA l)) (hc:MD oa nx' w'.1 2 (t'.syms.map jA)/\MD oa nx' w'.2 13 (t'.mems.map fA)) (et:(AI w').Nodup) (hn2:∀ p∈AI w',p∈AI w\/nx<=p.2):nX (L.set k t') (W.set k w') N0 nx' V0 oa:=by
 have hkl:=(yh.1 ht).1;have za:L≠[]:=fun e=>by rw [e] at ht; cases ht
 refine ⟨by rw [List.length_set,List.length_set]; exact h.len,?_,?_,?_⟩
 ·rcases h.v0 with ⟨e,_⟩ | ⟨_,h2,_,h4⟩
  ·exact absurd e za
  ·refine .inr ⟨fun e=>?_,by rw [List.length_set]; exact h2,h9,by omega⟩;have:=congrArg List.length e;rw [List.length_set] at this;simp at this;exact za this
 ·intro i u v hu hv;by_cases hik:i=k
  ·subst hik;rw [List.getElem?_set_self hkl] at hu;rw [List.getElem?_set_self (by rw [h.len]; exact hkl)] at hv;injection hu with hu;injection hv with hv;subst hu; subst hv;exact hc
  ·rw [List.getElem?_set_ne (fun e=>hik e.symm)] at hu hv;obtain ⟨c1,c2⟩:=h.cell i u v hu hv;have nc:=PY h.nd hv hw hik;refine ⟨?_,?_⟩
   ·rcases c1 with c1 | ⟨tn,nn,e,g1,g2,g3⟩
    ·exact .inl c1
    ·exact .inr ⟨tn,nn,e,g1,by omega,hm tn nn _ g1 g2 (nc _ (yq.2 (.inl (by rw [e]; simp [LJ])))) (LD _) g3⟩
   ·rcases c2 with c2 | ⟨tn,nn,e,g1,g2,g3⟩
    ·exact .inl c2
    ·exact .inr ⟨tn,nn,e,g1,by omega,hm tn nn _ g1 g2 (nc _ (yq.2 (.inr (by rw [e]; simp [LJ])))) (KD _) g3⟩
 ·refine nd_set hw h.nd et fun p hp=>?_
  rcases hn2 p hp with hp | hp
  ·exact .inl hp
  ·refine .inr fun v hv hpv=>?_
   obtain ⟨j,hj,rfl⟩:=List.mem_iff_getElem.1 hv;have:=(h.nm (yg hj) p hpv).2;omega
def killW (t n:Nat) (w:rA × rA):rA × rA:=(w.1.kill t n,w.2.kill t n)
theorem s9 (t n:Nat) (L:List QA) (W:List (rA × rA)):(OA L W).map (rA.kill t n)=OA L (W.map (killW t n)):=by
 unfold OA d9;rw [List.map_flatten,List.map_zipWith,List.zipWith_map_right];congr 1
theorem MD.kill {mem:Nat->Nat->Option (List rA)} {nx:Nat} {x:rA} {z:Nat} {l:List (List AV)} (h:MD mem nx x z l) {t n:Nat} (hn:(t,n) ∉ LJ x):x.kill t n=x:=by
 rcases h with ⟨_,b,rfl⟩ | ⟨t',n',rfl,_,_,_⟩
 ·rfl
 ·simp only [LJ,Y03,Prod.mk.injEq] at hn;simp only [rA.kill,AV.kill,AV.kill0];rw [if_neg (fun e=>hn ⟨e.1.symm,e.2.symm⟩)]
section
variable {L:List QA} {W:List (rA × rA)} {N0 nx:Nat} {V0:AV} {mem:Nat->Nat->Option (List rA)} (h:nX L W N0 nx V0 mem) {k:Nat}
include L W N0 nx V0 mem h k
theorem killW_set {w:rA × rA} (hw:W[k]?=some w) {t n:Nat} (hn:(t,n)∈AI w) (v:rA × rA):(W.map (killW t n)).set k v=W.set k v:=by
 have hk:=(yh.1 hw).1;refine List.ext_getElem? fun j=>?_
 rw [List.getElem?_set,List.getElem?_set,y7];split
 ·rfl
 ·rename_i za;rw [yc];cases hv:W[j]? with
  | none=>rfl
  | some u =>
   obtain ⟨x,hx⟩:∃ x,L[j]?=some x:=⟨_,yg (by have:=(yh.1 hv).1; have:=h.len; omega)⟩;obtain ⟨c1,c2⟩:=h.cell j x u hx hv;have nc:=PY h.nd hw hv za (t,n) hn;unfold AI at nc;rw [yq,not_or] at nc;simp only [yt,killW,c1.kill nc.1,c2.kill nc.2]
theorem ZN {t t':QA} {w w':rA × rA} (ht:L[k]?=some t) (hw:W[k]?=some w) {tn nn:Nat} (hn:(tn,nn)∈AI w) {j:Nat} (hj:j<10) {x:AV} {a:An} (hl:x.leaf=true) (hx:(OB t (killW tn nn w)).set j ⟨x,a⟩=OB t' w'):uA false 1 (k * 10 + j) ((OA L W).map (rA.kill tn nn)) x a=some (OA (L.set k t') (W.set k w')):=by
 rw [s9];have rk:(W.map (killW tn nn))[k]?=some (killW tn nn w):=by rw [yc,hw]; rfl
 rw [iD ht rk hj hl hx,killW_set h hw hn]
end
theorem MD.up' {mem oa:Nat->Nat->Option (List rA)} {nx nx':Nat} {x:rA} {z:Nat} {l:List (List AV)} (h:MD mem nx x z l) (hf:jD l=true) (hm:∀ t n l',t∈KS->(t,n)∈LJ x->jD l'=true->mem t n=some (xA l')->oa t n=some (xA l')) (hx:nx<=nx'):MD oa nx' x z l:=by
 rcases h with h | ⟨t,n,h1,h2,h3,h4⟩
 ·exact .inl h
 ·exact .inr ⟨t,n,h1,h2,by omega,hm t n l h2 (by rw [h1]; simp [LJ]) hf h4⟩
theorem FZ {L:List QA} {W:List (rA × rA)} {k:Nat} {t t':QA} {w:rA × rA} (hL:L[k]?=some t) (hW:W[k]?=some w) (h:OB t' w=OB t w):OA (L.set k t') (W.set k w)=OA L W:=by
 have:=T3 hL hW (j:=0) (t':=t') (w':=w) (by omega) (x:=⟨.int .i64 t.kind,.no⟩) (by rw [h]; rfl);rw [<- this,qF];rw [ND hL hW (j:=0) (by omega)];rfl
theorem u5 {sz:Nat} {l:List (List AV)} (h:AA sz l=true) {k:Nat} {c:List AV} (hk:l[k]?=some c) {j:Nat} (hj:j<sz) {x:AV} (hl:x.leaf=true):uA false 1 (k * sz + j) (xA l) x .no=some (xA (l.set k (c.set j x))):=by
 have hB:∀ b∈l.map (fun c:List AV=>c.map (fun v=>(⟨v,.no⟩:rA))),b.length=sz:=fun b hb=>by
  obtain ⟨c,hc,rfl⟩:=yQ.1 hb;obtain ⟨i,hi⟩:=List.getElem?_of_mem hc;rw [y7];exact FM h hi
 have he:xA l=(l.map (fun c:List AV=>c.map (fun v=>(⟨v,.no⟩:rA)))).flatten:=by
  unfold xA;rw [List.map_flatten]
 have hb:(l.map (fun c:List AV=>c.map (fun v=>(⟨v,.no⟩:rA))))[k]?=some (c.map (fun v=>(⟨v,.no⟩:rA))):=by rw [yc,hk]; rfl
 have ba:=(rP hB hb).2;simp only [uA,yI,if_false];rw [if_pos ⟨hl,by rw [he]; omega⟩,he,X3 hB hb hj];congr 1;unfold xA;rw [List.map_flatten,List.map_set,List.map_set]
theorem T4 {l:List fB} {z:Int} (h:MK l z=true):∃ (i:Nat) (x:fB),TB l z=(i:Int)/\l[i]?=some x/\x.id=z:=by
 have h0:0<=TB l z:=by
  have:=qL (fun x:fB=>decide (x.id=z)) l;unfold MK at h;rw [h] at this;exact of_decide_eq_true this
 obtain ⟨x,hx,hp⟩:=FH (fun x:fB=>decide (x.id=z)) l (fun e=>by unfold TB at h0; rw [e] at h0; exact absurd h0 (by decide));exact ⟨(TB l z).toNat,x,by omega,hx,of_decide_eq_true hp⟩
theorem R4 {l:List fB} {z:Int} (h:¬ MK l z=true):TB l z=-1:=by
 have h0:¬ 0<=TB l z:=fun h0=>by
  have:=qL (fun x:fB=>decide (x.id=z)) l;exact h (this.symm.trans (decide_eq_true h0))
 have:=aG (fun x:fB=>decide (x.id=z)) l;unfold TB at h0 ⊢;omega
theorem symIx_t {l:List LC} {z:Int} (h:QP l z=true):∃ (i:Nat) (x:LC),UB l z=(i:Int)/\l[i]?=some x/\x.id=z:=by
 have h0:0<=UB l z:=by
  have:=qL (fun x:LC=>decide (x.id=z)) l;unfold QP at h;rw [h] at this;exact of_decide_eq_true this
 obtain ⟨x,hx,hp⟩:=FH (fun x:LC=>decide (x.id=z)) l (fun e=>by unfold UB at h0; rw [e] at h0; exact absurd h0 (by decide));exact ⟨(UB l z).toNat,x,by omega,hx,of_decide_eq_true hp⟩
theorem symIx_f {l:List LC} {z:Int} (h:¬ QP l z=true):UB l z=-1:=by
 have h0:¬ 0<=UB l z:=fun h0=>by
  have:=qL (fun x:LC=>decide (x.id=z)) l;exact h (this.symm.trans (decide_eq_true h0))
 have:=aG (fun x:LC=>decide (x.id=z)) l;unfold UB at h0 ⊢;omega
theorem JS {f:FuncId} {args:List AV} {S:Option AV} {r:RV} (h:bA f args S=some r) (hT:sB f=none:=by rfl) (hA:lA f=none:=by rfl) (hc:uT f=false:=by rfl):rD sB BA f args S=some r :=
 uE hT (by unfold BA; rw [if_neg (by simp [hc])]; exact uE hA h)
theorem ins_m {b:Bool} {l:List fB} {x:fB} {i:Nat} (hi:i<=l.length) (hl:l.length<=900) (hb:b=true->l=[]):rD sB BA 68 [.undef,.sl b (l.map fA),.int .i64 i,.sl false [fA x]] (some (.int .i64 13))=some (.sl false ((l.take i++x :: l.drop i).map fA),none):=by
 refine JS ?_;have h1:AA 13 (fA x :: l.map fA)=true:=AC (x :: l);unfold bA;simp only [if_true];unfold insE;simp only;rw [if_pos ⟨by omega,by simpa using hi,by simpa using hl,h1,fun h=>by rw [hb h]; rfl⟩];simp [List.map_take,List.map_drop]
theorem ins_s {b:Bool} {l:List LC} {x:LC} {i:Nat} (hi:i<=l.length) (hl:l.length<=900) (hb:b=true->l=[]):rD sB BA 72 [.undef,.sl b (l.map jA),.int .i64 i,.sl false [jA x]] (some (.int .i64 2))=some (.sl false ((l.take i++x :: l.drop i).map jA),none):=by
 refine JS ?_;have h1:AA 2 (jA x :: l.map jA)=true:=pD (x :: l);unfold bA;rw [if_neg (by decide),if_pos rfl];simp only;unfold insE;simp only;rw [if_pos ⟨by omega,by simpa using hi,by simpa using hl,h1,fun h=>by rw [hb h]; rfl⟩];simp [List.map_take,List.map_drop]
theorem del_m {l:List fB} {i:Nat} (hi:i<l.length) (hl:l.length<=900):rD sB BA 69 [.undef,.sl false (l.map fA),.int .i64 i,.int .i64 ((i:Int) + 1)] (some (.int .i64 13))=some (.sl false ((l.take i++l.drop (i + 1)).map fA),none):=by
 refine JS ?_;unfold bA;rw [if_neg (by decide),if_neg (by decide),if_pos rfl];simp only;unfold delE;simp only;rw [if_pos ⟨by omega,trivial,by rw [y7]; omega,by simpa using hl,AC l⟩];have e1:((i:Int) + 1).toNat=i + 1:=by omega
 have e2:(i:Int).toNat=i:=by omega
 rw [e1,e2,List.map_append,List.map_take,List.map_drop]
theorem del_s {l:List LC} {i:Nat} (hi:i<l.length) (hl:l.length<=900):rD sB BA 73 [.undef,.sl false (l.map jA),.int .i64 i,.int .i64 ((i:Int) + 1)] (some (.int .i64 2))=some (.sl false ((l.take i++l.drop (i + 1)).map jA),none):=by
 refine JS ?_;unfold bA;rw [if_neg (by decide),if_neg (by decide),if_neg (by decide),if_pos rfl];simp only;unfold delE;simp only;rw [if_pos ⟨by omega,trivial,by rw [y7]; omega,by simpa using hl,pD l⟩];have e1:((i:Int) + 1).toNat=i + 1:=by omega
 have e2:(i:Int).toNat=i:=by omega
 rw [e1,e2,List.map_append,List.map_take,List.map_drop]
theorem MD.frz {mem:Nat->Nat->Option (List rA)} {nx:Nat} {x:rA} {z:Nat} {l:List (List AV)} (h:MD mem nx x z l) (he:AA z l=true) (hf:jD l=true):∃ (b:Bool) (tn nn:Nat),(l≠[]->tn∈KS)/\(l≠[]->nn<nx)/\(b=true->l=[])/\∀ s:pA,(tn∈KS->nn<nx->s.mem tn nn=mem tn nn)->AV.frz0 s x.v=.sl b l:=by
 rcases h with ⟨rfl,b,rfl⟩ | ⟨t,n,rfl,h1,h2,h3⟩
 ·exact ⟨b,0,0,fun h=>absurd rfl h,fun h=>absurd rfl h,fun _=>rfl,fun s _=>rfl⟩
 ·refine ⟨false,t,n,fun _=>h1,fun _=>h2,fun h=>(by cases h),fun s hs=>?_⟩;simp only [AV.frz0];rw [hs h1 h2,h3,J,LB he hf]
end Go.Proofs.YtbhbeakhognieaaGreatDoor
