/- A part of the proof. -/
import Derived.Test.YtbhbeakhognieaaGreatDoorVc
import Derived.Laws.CopyRow
import Derived.Lib.AppendZerosOnto
import Derived.Deep.RegionWith
import Derived.Deep.RegionHeld3
import Derived.BigQuiet
import Derived.Lib.Overlaps
import Derived.Laws.Externs
import Derived.Shelf.Strconv.Itoa3
import Derived.Shelf.Strings.OnBuilder
import Derived.Test.YtbhbeakhognieaaGreatDoorProg
set_option linter.all false
set_option maxRecDepth 100000
set_option maxHeartbeats 8000000
open Option renaming bind_some → U, bind_eq_some_iff → y0, map_eq_some_iff → y8, map_some → yd
open List renaming map_map → J, range_succ → y3, all_eq_true → y5, length_append → y9, length_take → yc, map_cons → yf, length_drop → yg, flatten_cons → yi, getElem?_drop → yj, getElem?_eq_some_iff → yk, getElem?_map → yl, getElem?_take → ym, getElem?_eq_getElem → yn, size_toArray → yu, length_map → yv, getElem?_append_right → yy, length_cons → yz, append_assoc → yA, getElem?_append_left → yB, drop_zero → yC, drop_eq_nil_of_le → yD, eq_nil_of_length_eq_zero → yF, drop_eq_getElem_cons → yI
open Int renaming toNat_lt → y4
open Nat renaming le_refl → y6, zero_add → yb, eq_zero_or_pos → yx
open Bool renaming and_eq_true → y7
open Array renaming length_toList → yw
namespace Go.Proofs.YtbhbeakhognieaaGreatDoor
open Go
section
open Go Go.RowKit
section
variable {P:Program}
theorem zD (w:World) (t ty e:TypeId) (i:TypeInfo) (size:Nat) (ht:P.underlying t=some (.slice e)) (hi:P.info? e=some i) (hs:i.size=size) (g off n c:Nat) (cur:Array Value) (te:TypeId)
  (hg:w.heap[g]?=some (.cells cur te (0,0))) (a:Addr) (m c':Nat) (news:List Value) (hl:news.length=m * size) (fb:∀ j u,news[j]?=some u->w.cell? (a.add j)=some u) (h1:∀ u∈news,u.oneCell'=true) (ua:n + m<=c) (ne:off + n * size + news.length<=cur.size) :
  (Builtin.append_ #[t,t] ty #[.slice (some ⟨g,off,none⟩) n c,.slice (some a) m c']).run P w=.ok (.slice (some ⟨g,off,none⟩) (n + m) c) (w.setRow g (cur.toList.take (off + n * size)++news++cur.toList.drop (off + n * size + news.length)).toArray):=by
 have gp:=run_loadCells_list (P:=P) w a news fb;rw [hl] at gp;have dd:=run_storeCells_at P g (off + n * size) te news 0 cur w hg (by simpa using ne) h1;simp only [Nat.add_zero] at dd;simp [Builtin.append_,run_underlying ht,sizeOf,typeInfo,hi,hs,Builtin.lenOf,Builtin.firstCells,ua,gp,Addr.add_lit,dd]
theorem FB (w:World) (t ty e:TypeId) (i:TypeInfo) (z:Value) (size bytes:Nat) (ht:P.underlying t=some (.slice e)) (hi:P.info? e=some i) (hz:i.zero=some z) (hs:i.size=size) (hby:i.bytes=bytes) (gf:z.cells.size=size) (A:Option Addr) (n c:Nat) (olds:List Value) (zn:olds.length=n * size)
  (uk:0<n->∃ b,A=some b/\∀ j u,olds[j]?=some u->w.cell? (b.add j)=some u) (pg:A=none->n=0/\c=0) (a:Addr) (m c':Nat) (news:List Value) (hl:news.length=m * size) (fb:∀ j u,news[j]?=some u->w.cell? (a.add j)=some u) (ua:c<n + m) (hnc:n<=c) (hb:n + m<=1000) (cu:bytes<=1000) :
  ∃ cap ia,n + m<=cap/\cap<=maxLen/\ia.size=cap * size/\ia.toList.take ((n + m) * size)=olds++news/\(Builtin.append_ #[t,t] ty #[.slice A n c,.slice (some a) m c']).run P w=.ok (.slice (some ⟨w.heap.size,0,none⟩) (n + m) cap) (w.drew.alloc (.cells ia e)):=by
 subst hs;have co:Builtin.nextslicecap (n + m) c * i.bytes<=281474976710656:=by
  have h1:Builtin.nextslicecap (n + m) c<=2 * (n + m):=nextslicecap_le ua
  calc _<=(2 * (n + m)) * i.bytes:=Nat.mul_le_mul_right _ h1
   _<=2000 * 1000:=Nat.mul_le_mul (by omega) (by omega)
   _<=_:=by decide
 cases A with
 | none =>
  obtain ⟨hn,ju⟩:=pg rfl;subst hn; subst ju;have:olds=[]:=yF (by simpa using zn);subst this;have zd:=grownCap_ge w m 0 e;have hmb:m * i.bytes<=1000 * 1000:=Nat.mul_le_mul (by omega) (by omega);have hr:=run_append_nil (P:=P) w t ty e i z ht hi hz a m c' news hl fb (by omega) (by omega) (by omega);rw [yb];refine ⟨_,_,zd,grownCap_le_maxLen w _ _ e (by have:maxLen=9223372036854775807:=rfl; omega),?_,?_,hr⟩
  ·rw [Array.size_append,size_zeroCells,yu,hl,gf,<- Nat.add_mul]; congr 1; omega
  ·rw [Array.toList_append,<- hl]; exact List.take_left
 | some b =>
  have zd:=grownCap_ge w (n + m) c e;have dp:∀ j u,olds[j]?=some u->w.cell? (b.add j)=some u:=fun j u hu=>by
   have hj:j<olds.length:=(yk.1 hu).1;have hn:0<n:=by
    rcases yx n with h | h
    ·subst h; omega
    ·exact h
   obtain ⟨b',ra,h⟩:=uk hn;injection ra with ra;subst ra;exact h j u hu
  have hr:=run_append_grow (P:=P) w t ty e i z ht hi hz b n c olds zn dp a m c' news hl fb ua (by omega) co;refine ⟨_,_,zd,grownCap_le_maxLen w _ _ e (by have:maxLen=9223372036854775807:=rfl; omega),?_,?_,hr⟩
  ·rw [Array.size_append,Array.size_append,size_zeroCells,yu,yu,hl,zn,gf,<- Nat.add_mul,<- Nat.add_mul]; congr 1; omega
  ·have jb:(olds++news).length=(n + m) * i.size:=by rw [y9,zn,hl,Nat.add_mul]
   rw [Array.toList_append,Array.toList_append,<- jb]; exact List.take_left
theorem OV (w:World) (dT sT ty e:TypeId) (size:Nat) (hu:P.underlying dT=some (.slice e)) (hs:(P.info? e).map (·.size)=some size) (g off dLen dCap:Nat) (a:Addr) (sLen sCap:Nat) (cur:Array Value) (t:TypeId) (cs:List Value)
  (hg:w.heap[g]?=some (.cells cur t (0,0))) (hn:cs.length=Nat.min sLen dLen * size) (gl:∀ j v,cs[j]?=some v->w.cell? (a.add j)=some v) (ne:off + cs.length<=cur.size) (h1:∀ v∈cs,v.oneCell'=true) :
  (Builtin.copy_ #[dT,sT] ty #[.slice (some ⟨g,off,none⟩) dLen dCap,.slice (some a) sLen sCap]).run P w=.ok (goInt (Nat.min sLen dLen:Nat)) (w.setRow g (cur.toList.take off++cs++cur.toList.drop (off + cs.length)).toArray):=by
 have hl:=run_loadCells_list (P:=P) w a cs gl;have dd:=run_storeCells_at P g off t cs 0 cur w hg (by simpa using ne) h1;rw [hn] at hl;cases hq:P.info? e with
 | none=>simp [hq] at hs
 | some i =>
  have hi:i.size=size:=by simpa [hq] using hs
  simp only [Nat.add_zero] at dd;simp [Builtin.copy_,run_underlying hu,Builtin.lenOf,Builtin.firstCells,sizeOf,typeInfo,hq,hi,hl,dd]
end
theorem OD {P:Program} (w:World) {ops:Array Oper} {rest:List Oper} {o:Oper} {a:Act} {Q:Exit->Act->World->Prop} (ol:o.guard=none) (s x:Operand) (t t':TypeId)
  (ho:o.op=.call { callee:=.builtin .append,args:=#[s,x],argTypes:=#[t,t'] }) (v u:Value) (hs:a.eval s=v) (hx:a.eval x=u) {v':Value} {w':World}
  (hr:(Builtin.append_ #[t,t'] o.type #[v,u]).run P w=.ok v' w') (h:wpList P ops Q rest (a.put o.dst v') w'):wpList P ops Q (o :: rest) a w:=by
 refine wpList_plain ol fun K hK=>?_
 unfold Oper.wp execOp;simp only [ho,resolve,invoke,builtin,Sem.run_bind,Sem.run_pure,Result.andThen_ok,List.map_toArray,yf,List.map_nil,hs,hx,hr];exact hK _ _ h
theorem CL {P:Program} {w:World} {ops:Array Oper} {o:Oper} {a:Act} {K:Act->World->Prop} {Q:Exit->Act->World->Prop} {E:Prop} (ol:o.guard=none) (s x:Operand) (t t':TypeId)
  (ho:o.op=.call { callee:=.builtin .append,args:=#[s,x],argTypes:=#[t,t'] }) (v u:Value) (hs:a.eval s=v) (hx:a.eval x=u) {v':Value} {w':World}
  (hr:(Builtin.append_ #[t,t'] o.type #[v,u]).run P w=.ok v' w') (h:K (a.put o.dst v') w'):if Region.wanted o (yielded ops a.tmps)=true then Oper.wp P o a w K Q else E:=by
 have hw:Region.wanted o (yielded ops a.tmps)=true:=by simp [Region.wanted,ol]
 rw [if_pos hw];unfold Oper.wp execOp;simp only [ho,resolve,invoke,builtin,Sem.run_bind,Sem.run_pure,Result.andThen_ok,List.map_toArray,yf,List.map_nil,hs,hx,hr];exact h
theorem aD {P:Program} (w:World) {ops:Array Oper} {rest:List Oper} {o:Oper} {a:Act} {Q:Exit->Act->World->Prop} (ol:o.guard=none) (s x:Operand) (t t':TypeId)
  (ho:o.op=.call { callee:=.builtin .copy,args:=#[s,x],argTypes:=#[t,t'] }) (v u:Value) (hs:a.eval s=v) (hx:a.eval x=u) {v':Value} {w':World}
  (hr:(Builtin.copy_ #[t,t'] o.type #[v,u]).run P w=.ok v' w') (h:wpList P ops Q rest (a.put o.dst v') w'):wpList P ops Q (o :: rest) a w:=by
 refine wpList_plain ol fun K hK=>?_
 unfold Oper.wp execOp;simp only [ho,resolve,invoke,builtin,Sem.run_bind,Sem.run_pure,Result.andThen_ok,List.map_toArray,yf,List.map_nil,hs,hx,hr];exact hK _ _ h
theorem oE {P:Program} {w:World} {ops:Array Oper} {o:Oper} {a:Act} {K:Act->World->Prop} {Q:Exit->Act->World->Prop} {E:Prop} (ol:o.guard=none) (s x:Operand) (t t':TypeId)
  (ho:o.op=.call { callee:=.builtin .copy,args:=#[s,x],argTypes:=#[t,t'] }) (v u:Value) (hs:a.eval s=v) (hx:a.eval x=u) {v':Value} {w':World}
  (hr:(Builtin.copy_ #[t,t'] o.type #[v,u]).run P w=.ok v' w') (h:K (a.put o.dst v') w'):if Region.wanted o (yielded ops a.tmps)=true then Oper.wp P o a w K Q else E:=by
 have hw:Region.wanted o (yielded ops a.tmps)=true:=by simp [Region.wanted,ol]
 rw [if_pos hw];unfold Oper.wp execOp;simp only [ho,resolve,invoke,builtin,Sem.run_bind,Sem.run_pure,Result.andThen_ok,List.map_toArray,yf,List.map_nil,hs,hx,hr];exact h
def lay (L:List Value) (o:Nat) (X:List Value):List Value:=L.take o++X++L.drop (o + X.length)
theorem iD {L X:List Value} {o:Nat} (h:o + X.length<=L.length):(lay L o X).length=L.length:=by
 simp only [lay,y9,yc,yg]; omega
theorem aG (L X:List Value) (o j:Nat) (h:o + X.length<=L.length):(lay L o X)[j]?=if o<=j/\j<o + X.length then X[j - o]? else L[j]?:=by
 have ht:(L.take o).length=o:=by rw [yc]; omega
 unfold lay;rcases Nat.lt_or_ge j o with h1 | h1
 ·rw [if_neg (by omega),yA,yB (by omega),ym,if_pos h1]
 ·rcases Nat.lt_or_ge j (o + X.length) with h2 | h2
  ·rw [if_pos ⟨h1,h2⟩,yB (by rw [y9]; omega),yy (by omega),ht]
  ·rw [if_neg (by omega),yy (by rw [y9]; omega),y9,ht,yj];congr 1; omega
def FH:Value->Option Nat
 | .slice (some a) _ _=>some a.block
 | _=>none
theorem jH {w:World} {a:Addr} {u:Value} (h:w.cell? a=some u):∃ c ty fz,w.heap[a.block]?=some (.cells c ty fz)/\0<c.size:=by
 unfold World.cell? at h;split at h
 ·rename_i c ty fz hc;split at h
  ·cases h
  ·have:=(Array.getElem?_eq_some_iff.1 h).1;exact ⟨c,ty,fz,hc,by omega⟩
 ·cases h
theorem dJ {P:Program} (w:World) (tS tR e:TypeId) (ht:P.underlying tS=some (.slice e)) (size:Nat) (hz:∀ w,(Go.sizeOf e).run P w=.ok size w)
  (a b:Addr) (la ca lb cb:Nat) (db:a.block≠b.block) (u:Value) (ha:w.cell? a=some u) (cur:Array Value) (ty:TypeId) (hb:w.heap[b.block]?=some (.cells cur ty (0,0))) (bd:cur.size≠0) :
  (Extern.SlicesOverlaps.overlaps #[tS,tS] #[tR] #[.slice (some a) la ca,.slice (some b) lb cb]).run P w=.ok (.bool false) w:=by
 obtain ⟨iv,ta,fz,hca,kb⟩:=jH ha;have zz:w.shape? a.block=some (ta,iv.size):=by simp [World.shape?,hca]
 have iT:w.shape? b.block=some (ty,cur.size):=by simp [World.shape?,hb]
 have hfb:w.frozen? b=false:=by simp [World.frozen?,hb]
 have cq:w.frozen? { block:=b.block,off:=cur.size }=false:=by simp [World.frozen?,hb]
 have th:(a.block != b.block)=true:=by simpa using db
 have ix:(a.block == b.block)=false:=by simpa using db
 change Sem.run P (α:=Value) (do
  let some t:=(#[tS,tS]:Array TypeId)[0]? | stuck "slices.overlaps: no parameter types"
  let .slice elem <- underlying t | stuck "slices.overlaps: slice type expected"
  let size <- sizeOf elem
  match (some a:Option Addr),(some b:Option Addr) with
  | some a,some b =>
   if la=0\/lb=0\/size=0 then pure (Value.bool false)
   else if a.block != b.block&&(<- frozen a)&&(<- frozen b) then unsupported .addressObserved
   else do
    if a.block != b.block then do
     noView a; noView b
     if <- mayBeOne a b then return Value.bool ((<- choose (.extern "sameAddr.stringBytes" 2)) == 1)
    pure (Value.bool (a.block == b.block&&a.off<b.off + lb * size&&b.off<a.off + la * size))
  | _,_=>pure (Value.bool false)) w=_
 by_cases h0:la=0\/lb=0\/size=0
 ·simp [run_underlying ht,hz,h0]
 ·obtain ⟨k,hk⟩:∃ k,iv.size=k + 1:=⟨iv.size - 1,by omega⟩;obtain ⟨m,hm⟩:∃ m,cur.size=m + 1:=⟨cur.size - 1,by omega⟩;rw [hk] at zz;rw [hm] at iT cq;cases hfa:w.frozen? a <;> cases hfk:w.frozen? { block:=a.block,off:=k + 1 } <;>
   simp [run_underlying ht,hz,h0,th,ix,frozen,noView,viewAt,mayBeOne,stringish,shape,Sem.run,zz,iT,hfb,cq,hfa,hfk]
theorem eQ {P:Program} (w:World) (t e e0 ty:TypeId) (z:Value) (ht:P.underlying t=some (.slice e)) (hz:(zeroValue e).run P w=.ok z w) (h1:∀ u∈z.cells.toList,u.oneCell'=true)
  (g off n c:Nat) (cur:Array Value) (hg:w.heap[g]?=some (.cells cur e0 (0,0))) (jb:off + n * z.cells.size<=cur.size) :
  ∃ w' ia,(Builtin.clear_ #[t] ty #[.slice (some ⟨g,off,none⟩) n c]).run P w=.ok (.tuple #[]) w'/\w'.heap[g]?=some (.cells ia e0 (0,0))/\ia.size=cur.size/\ia.toList.take off=cur.toList.take off/\WA (fun b=>b=g) w w':=by
 cases n with
 | zero =>
  refine ⟨w,cur,?_,hg,rfl,rfl,WA.refl _ w⟩;simp [Builtin.clear_,run_underlying ht]
 | succ n =>
  have fq:∀ u∈(Builtin.zeroCells z.cells (n + 1)).toList,u.oneCell'=true:=by
   intro u hu;simp only [Builtin.zeroCells,Array.toList_map,List.mem_map,Array.toList_range,List.mem_range] at hu;obtain ⟨j,hj,rfl⟩:=hu;have kb:0<z.cells.size:=by
    rcases yx z.cells.size with h | h
    ·rw [h] at hj; simp at hj
    ·exact h
   have eb:=Nat.mod_lt j kb;rw [getElem!_pos z.cells _ eb];exact h1 _ (by simp)
  have rb:(Builtin.zeroCells z.cells (n + 1)).toList.length=(n + 1) * z.cells.size:=by simp [size_zeroCells]
  have dd:=run_storeCells_at P g off e0 (Builtin.zeroCells z.cells (n + 1)).toList 0 cur w hg (by rw [rb]; simpa using jb) fq;simp only [Nat.add_zero] at dd;obtain ⟨nw,rx⟩:∃ nw,nw=(cur.toList.take off++(Builtin.zeroCells z.cells (n + 1)).toList++cur.toList.drop (off + (Builtin.zeroCells z.cells (n + 1)).toList.length)).toArray:=⟨_,rfl⟩;rw [<- rx] at dd;refine ⟨w.setRow g nw,nw,?_,setRow_heap w g cur _ e0 _ hg,?_,?_,?_⟩
  ·simp [Builtin.clear_,run_underlying ht,hz,dd]
  ·rw [rx];simp only [yu,y9,yc,yg,yw,rb];omega
  ·rw [rx,yA];exact List.take_left' (by simp; omega)
  ·exact ⟨rfl,rfl,rfl,by simp,fun k hk hF=>setRow_other w g k _ hF⟩
end
section
open Go Go.RowKit
structure TF where
 cells:List Value
 len:cells.length=13
 one:∀ u∈cells,u.oneCell'=true
def DC (l:List TF):List Value:=l.flatMap TF.cells
theorem gB (l:List TF):(DC l).length=l.length * 13:=by
 induction l with
 | nil=>rfl
 | cons q l ih=>simp only [DC,List.flatMap_cons,y9,yz,q.len] at ih ⊢; rw [ih]; omega
theorem EF (l r:List TF):DC (l++r)=DC l++DC r:=by simp [DC]
theorem rH (q:TF) (r:List TF):DC (q :: r)=q.cells++DC r:=by simp [DC]
theorem uJ (l:List TF) (k:Nat):(DC l).take (k * 13)=DC (l.take k):=by
 induction l generalizing k with
 | nil=>simp [DC]
 | cons q l ih =>
  cases k with
  | zero=>simp [DC]
  | succ k =>
   have h4:=q.len;rw [rH,List.take_succ_cons,rH,List.take_append,h4,show (k + 1) * 13 - 13=k * 13 from by omega,ih,List.take_of_length_le (by rw [h4]; omega)]
theorem RF (l:List TF) (k:Nat):(DC l).drop (k * 13)=DC (l.drop k):=by
 induction l generalizing k with
 | nil=>simp [DC]
 | cons q l ih =>
  cases k with
  | zero=>simp [DC]
  | succ k =>
   have h4:=q.len;rw [rH,List.drop_succ_cons,List.drop_append,h4,show (k + 1) * 13 - 13=k * 13 from by omega,ih,yD (by rw [h4]; omega),List.nil_append]
theorem dO (l:List TF):∀ u∈DC l,u.oneCell'=true:=by
 intro u hu;simp only [DC,List.mem_flatMap] at hu;obtain ⟨q,_,hq⟩:=hu;exact q.one u hq
theorem mZ:∀ (n:Nat) (vs:List Value),vs.length=n * 13->(∀ u∈vs,u.oneCell'=true)->∃ l:List TF,l.length=n/\DC l=vs
 | 0,vs,h,_=>⟨[],rfl,(yF (by omega)).symm⟩
 | n + 1,vs,h,h1=>by
  obtain ⟨l,hl,hc⟩:=mZ n (vs.drop 13) (by rw [yg]; omega) (fun u hu=>h1 u (List.mem_of_mem_drop hu));exact ⟨⟨vs.take 13,by rw [yc]; omega,fun u hu=>h1 u (List.mem_of_mem_take hu)⟩ :: l,by simp [hl],by rw [rH,hc]; exact List.take_append_drop _ _⟩
def d7:Value:=.agg #[.int .i64 0,.string ⟨#[]⟩,.int .i64 0,.bool false,.bool false,.int .i64 0,.bool false,.int .i64 0,.string ⟨#[]⟩,.int .i64 0,.slice none 0 0,.slice none 0 0,.slice none 0 0]
theorem SX:Tryz.prog.underlying 66=some (.slice 48):=by kernel_rfl
theorem G8:(Tryz.prog.info? 48).map (fun i=>(i.zero,i.size,i.bytes))=some (some d7,13,160):=by kernel_rfl
theorem mysz:(Tryz.prog.info? 48).map (·.size)=some 13:=by kernel_rfl
theorem myzv (w:World):(zeroValue 48).run Tryz.prog w=.ok d7 w:=by kernel_rfl
theorem F8 (A:Option Addr) (n c k:Nat) (hk:k<=c) (w:World):(Instr.slice 66 (.slice A n c) none (some (.int .i64 k)) none).run Tryz.prog w=.ok (.slice A k c) w:=by
 obtain ⟨i,hi,kf,rd,af⟩:=info_parts G8;exact WY w _ _ i SX hi A n c k hk
theorem bT (A:Option Addr) (n c k:Nat) (hk:k<=n) (w:World):(Instr.slice 66 (.slice A n c) (some (.int .i64 k)) none none).run Tryz.prog w=.ok (.slice (if c=k then A else A.map (·.add (k * 13))) (n - k) (c - k)) w:=by
 obtain ⟨i,hi,kf,rd,af⟩:=info_parts G8;exact RY w _ _ i 13 SX hi rd A n c k hk
theorem mylh (A:Option Addr) (n c k h:Nat) (hk:k<=h) (hh:h<=c) (w:World):(Instr.slice 66 (.slice A n c) (some (.int .i64 k)) (some (.int .i64 h)) none).run Tryz.prog w=.ok (.slice (if c=k then A else A.map (·.add (k * 13))) (h - k) (c - k)) w:=by
 obtain ⟨i,hi,kf,rd,af⟩:=info_parts G8;exact EY w _ _ i 13 SX hi rd A n c k h hk hh
theorem mysiz (w:World):(Go.sizeOf 48).run Tryz.prog w=.ok 13 w:=by kernel_rfl
structure dG (w:World) (g off c N:Nat) (l:List TF):Prop where
 blk:∃ cur ty,w.heap[g]?=some (.cells cur ty (0,0))/\cur.size=N/\off + c * 13<=N/\(cur.toList.drop off).take (l.length * 13)=DC l
 len:l.length<=c
def M9 (w:World) (v:Value) (l:List TF):Prop:=(v=.slice none 0 0/\l=[])\/∃ g c N,v=.slice (some ⟨g,0,none⟩) l.length c/\dG w g 0 c N l
section
variable {w w':World} {g off c N:Nat} {l:List TF} {v:Value}
theorem dG.keep {F:Nat->Prop} (h:dG w g off c N l) (hk:WA F w w') (hF:¬ F g):dG w' g off c N l:=by
 obtain ⟨⟨cur,ty,h1,h2,h3⟩,h4⟩:=h;exact ⟨⟨cur,ty,(hk.block g (uA h1) hF).trans h1,h2,h3⟩,h4⟩
theorem dG.lt (h:dG w g off c N l):g<w.heap.size:=by obtain ⟨⟨cur,ty,h1,_⟩,_⟩:=h; exact uA h1
theorem dG.cells (h:dG w g off c N l) (j:Nat) (u:Value) (hu:(DC l)[j]?=some u):w.cell? ⟨g,off + j,none⟩=some u:=by
 obtain ⟨⟨cur,ty,h1,h2,je,h3⟩,h4⟩:=h;rw [cell_of_row w g (off + j) cur _ (0,0) h1];rw [<- h3,ym] at hu;split at hu
 ·rw [yj] at hu; simpa using hu
 ·cases hu
theorem dG.drop (h:dG w g off c N l) {k:Nat} (hk:k<=l.length):dG w g (if c=k then off else off + k * 13) (c - k) N (l.drop k):=by
 obtain ⟨⟨cur,ty,h1,h2,je,h3⟩,h4⟩:=h;have h6:=RF l k;refine ⟨⟨cur,ty,h1,h2,?_,?_⟩,by rw [yg]; omega⟩
 ·split <;> omega
 ·rw [yg,<- h6,<- h3];split
  ·rename_i e;have:l.length=k:=by omega
   rw [this,Nat.sub_self,Nat.zero_mul,List.take_zero,yD (by rw [yc]; omega)]
  ·rw [<- List.drop_drop,List.drop_take,Nat.sub_mul]
theorem dG.take (h:dG w g off c N l) {k:Nat} (hk:k<=l.length):dG w g off c N (l.take k):=by
 obtain ⟨⟨cur,ty,h1,h2,je,h3⟩,h4⟩:=h;refine ⟨⟨cur,ty,h1,h2,je,?_⟩,by rw [yc]; omega⟩;rw [<- uJ,<- h3,List.take_take,yc,Nat.min_eq_left hk,Nat.min_eq_left (by omega)]
end
theorem dG.app {w:World} {g off c:Nat} {l r:List TF} {cur:Array Value} {ty:TypeId} (hg:w.heap[g]?=some (.cells cur ty (0,0))) (h2:off + c * 13<=cur.size) (h3:(cur.toList.drop off).take (l.length * 13)=DC l) (ua:l.length + r.length<=c) :
  dG (w.setRow g (cur.toList.take (off + l.length * 13)++DC r++cur.toList.drop (off + l.length * 13 + (DC r).length)).toArray) g off c cur.size (l++r):=by
 have hr:=gB r;have ig:cur.toList.length=cur.size:=by simp
 refine ⟨⟨_,_,setRow_heap w g cur _ _ _ hg,?_,h2,?_⟩,by rw [y9]; exact ua⟩
 ·simp only [yu,y9,yc,yg,yw,hr];omega
 ·have ht:(cur.toList.take (off + l.length * 13)).length=off + l.length * 13:=by rw [yc]; omega
  have e1:(cur.toList.take (off + l.length * 13)).drop off=DC l:=by rw [List.drop_take,Nat.add_sub_cancel_left,h3]
  simp only;rw [yA,List.drop_append_of_le_length (by omega),e1,EF,y9,Nat.add_mul,<- gB l,<- hr,<- yA,<- y9];exact List.take_left
theorem dG.clear {w:World} {g off c N:Nat} {l:List TF} (h:dG w g off c N l) (ty:TypeId) (n m:Nat) (hn:l.length + n<=c) :
  ∃ w',(Builtin.clear_ #[66] ty #[.slice (some ⟨g,off + l.length * 13,none⟩) n m]).run Tryz.prog w=.ok (.tuple #[]) w'/\dG w' g off c N l/\WA (fun b=>b=g) w w':=by
 obtain ⟨⟨cur,t0,h1,h2,je,h3⟩,h4⟩:=h;have pe:∀ u∈d7.cells.toList,u.oneCell'=true:=fun u hu=>y5.1 (show d7.cells.toList.all (fun u=>u.oneCell')=true by rfl) u hu
 have gf:d7.cells.size=13:=rfl;obtain ⟨w',ia,r1,r2,r3,r4,r5⟩:=eQ (P:=Tryz.prog) w 66 48 t0 ty _ SX (myzv w) pe g (off + l.length * 13) n m cur h1 (by rw [gf]; omega);refine ⟨w',r1,⟨⟨ia,_,r2,by omega,je,?_⟩,h4⟩,r5⟩;have e:∀ L:List Value,(L.drop off).take (l.length * 13)=(L.take (off + l.length * 13)).drop off:=fun L=>by rw [List.drop_take,Nat.add_sub_cancel_left]
 rw [e,r4,<- e,h3]
theorem qR (w:World) (ty t0:TypeId) (g off dLen dCap:Nat) (a:Addr) (sLen sCap:Nat) (L:List Value) (cs:List Value)
  (hg:w.heap[g]?=some (.cells L.toArray t0 (0,0))) (hn:cs.length=Nat.min sLen dLen * 13) (gl:∀ j v,cs[j]?=some v->w.cell? (a.add j)=some v) (ne:off + cs.length<=L.length) (h1:∀ v∈cs,v.oneCell'=true) :
  (Builtin.copy_ #[66,66] ty #[.slice (some ⟨g,off,none⟩) dLen dCap,.slice (some a) sLen sCap]).run Tryz.prog w=.ok (goInt (Nat.min sLen dLen:Nat)) (w.setRow g (lay L off cs).toArray):=by
 have:=OV (P:=Tryz.prog) w 66 66 ty 48 13 SX mysz g off dLen dCap a sLen sCap L.toArray t0 cs hg hn gl (by simpa using ne) h1;exact this
theorem dG.list {w:World} {g off c N:Nat} {l:List TF} (h:dG w g off c N l):∃ (L:List Value) (ty:TypeId),w.heap[g]?=some (.cells L.toArray ty (0,0))/\L.length=N/\off + c * 13<=L.length/\∀ j,j<l.length * 13->L[off + j]?=(DC l)[j]?:=by
 obtain ⟨⟨cur,ty,h1,h2,je,h3⟩,h4⟩:=h;refine ⟨cur.toList,ty,h1,by simpa using h2,by rw [yw]; omega,fun j hj=>?_⟩;rw [<- h3,ym,if_pos hj,yj]
theorem dG.of_list {w:World} {g off c:Nat} {l:List TF} {L:List Value} {ty:TypeId} (h1:w.heap[g]?=some (.cells L.toArray ty (0,0))) (h2:off + c * 13<=L.length) (h3:∀ j,j<l.length * 13->L[off + j]?=(DC l)[j]?) (h4:l.length<=c):dG w g off c L.length l:=by
 refine ⟨⟨_,_,h1,by simp,h2,?_⟩,h4⟩;apply List.ext_getElem?;intro j;rw [ym];split
 ·rename_i hj;rw [yj];exact h3 j hj
 ·rename_i hj;rw [List.getElem?_eq_none (by rw [gB]; omega)]
theorem MV (l:List TF) (x:TF) (i j:Nat) (hi:i<=l.length):(DC (l.take i++x :: l.drop i))[j]?=if j<i * 13 then (DC l)[j]? else if j<i * 13 + 13 then x.cells[j - i * 13]? else (DC l)[j - 13]?:=by
 have ht:(DC (l.take i)).length=i * 13:=by rw [gB,yc,Nat.min_eq_left hi]
 have hx:=x.len;rw [EF,rH];split
 ·rw [yB (by omega),<- uJ,ym,if_pos (by omega)]
 ·split
  ·rw [yy (by omega),ht,yB (by omega)]
  ·rw [yy (by omega),ht,yy (by omega),hx,<- RF,yj];congr 1; omega
theorem dG.ins {w:World} {g off c:Nat} {l:List TF} {x:TF} {L:List Value} {i:Nat} {ty:TypeId} (hi:i<=l.length) (hL:off + c * 13<=L.length) (hc:∀ j,j<l.length * 13->L[off + j]?=(DC l)[j]?) (ua:l.length + 1<=c) (hg:w.heap[g]?=some (.cells (lay (lay L (off + (i + 1) * 13) (DC (l.drop i))) (off + i * 13) x.cells).toArray ty (0,0))) :
  dG w g off c L.length (l.take i++x :: l.drop i):=by
 have hx:=x.len;have hd:(DC (l.drop i)).length=(l.length - i) * 13:=by rw [gB,yg]
 have da:(l.take i++x :: l.drop i).length=l.length + 1:=by simp; omega
 have h1:off + (i + 1) * 13 + (DC (l.drop i)).length<=L.length:=by omega
 have ch:=iD h1;have h2:off + i * 13 + x.cells.length<=(lay L (off + (i + 1) * 13) (DC (l.drop i))).length:=by rw [ch,hx]; omega
 have ii:=iD h2;have:=dG.of_list hg (c:=c) (off:=off) (l:=l.take i++x :: l.drop i) (by rw [ii,ch]; exact hL) (fun j hj=>?_) (by omega)
 ·rwa [ii,ch] at this
 rw [da] at hj;rw [MV l x i j hi,aG _ _ _ _ h2,aG _ _ _ _ h1,hx,hd];by_cases c1:j<i * 13
 ·rw [if_pos c1,if_neg (by omega),if_neg (by omega)];exact hc j (by omega)
 ·rw [if_neg c1];by_cases c2:j<i * 13 + 13
  ·rw [if_pos c2,if_pos (by omega)];congr 1; omega
  ·rw [if_neg c2,if_neg (by omega),if_pos (by omega),<- RF,yj];congr 1; omega
theorem dG.ins2 {w:World} {g c:Nat} {l:List TF} {x:TF} {L:List Value} {i:Nat} {ty:TypeId} (hi:i<=l.length) (hL:c * 13<=L.length) (hc:∀ j,j<i * 13->L[j]?=(DC l)[j]?) (ua:l.length + 1<=c) (hg:w.heap[g]?=some (.cells (lay (lay L (i * 13) x.cells) ((i + 1) * 13) (DC (l.drop i))).toArray ty (0,0))) :
  dG w g 0 c L.length (l.take i++x :: l.drop i):=by
 have hx:=x.len;have hd:(DC (l.drop i)).length=(l.length - i) * 13:=by rw [gB,yg]
 have da:(l.take i++x :: l.drop i).length=l.length + 1:=by simp; omega
 have h1:i * 13 + x.cells.length<=L.length:=by omega
 have ch:=iD h1;have h2:(i + 1) * 13 + (DC (l.drop i)).length<=(lay L (i * 13) x.cells).length:=by rw [ch,hd]; omega
 have ii:=iD h2;have:=dG.of_list hg (c:=c) (off:=0) (l:=l.take i++x :: l.drop i) (by rw [ii,ch]; omega) (fun j hj=>?_) (by omega)
 ·rwa [ii,ch] at this
 rw [da] at hj;rw [yb,MV l x i j hi,aG _ _ _ _ h2,aG _ _ _ _ h1,hx,hd];by_cases c1:j<i * 13
 ·rw [if_pos c1,if_neg (by omega),if_neg (by omega)];exact hc j c1
 ·rw [if_neg c1];by_cases c2:j<i * 13 + 13
  ·rw [if_pos c2,if_neg (by omega),if_pos (by omega)]
  ·rw [if_neg c2,if_pos (by omega),<- RF,yj];congr 1; omega
end
section
open Go Go.RowKit
def myCut (g off N:Nat) (w:World) (l:List TF) (e:Ending) (w':World):Prop:=∃ c,e=.returned (.slice (some ⟨g,off,none⟩) l.length c)/\dG w' g off c N l/\WA (fun b=>b=g) w w'
set_option maxHeartbeats 400000 in
theorem WZ (g off c N:Nat) (l:List TF) (n i:Nat) (w:World) (hn:l.length=n) (hi:i<n) (da:n<=1000) (h:dG w g off c N l) :
  Calls Tryz.prog 69 #[.slice (some ⟨g,off,none⟩) n c,.int .i64 i,.int .i64 ((i:Int) + 1)] w (myCut g off N w (l.eraseIdx i)):=by
 have zd:n<=c:=by have:=h.len; omega
 have db:((i:Int) == (i:Int) + 1)=false:=by simp; omega
 obtain ⟨⟨cur,t0,hg,hN,rb,xq⟩,_⟩:=h.take (k:=i) (by omega);have nh:(l.take i).length=i:=by rw [yc]; omega
 have td:(l.drop (i + 1)).length=n - (i + 1):=by rw [yg,hn]
 have hd:=h.drop (k:=i + 1) (by omega);obtain ⟨to,tl⟩:∃ to:Nat,to=(if c=i + 1 then off else off + (i + 1) * 13):=⟨_,rfl⟩;rw [<- tl] at hd;have bt:(if c=i + 1 then some (⟨g,off,none⟩:Addr) else (some (⟨g,off,none⟩:Addr)).map (·.add ((i + 1) * 13)))=some ⟨g,to,none⟩:=by
  rw [tl]; split <;> simp [Addr.add_lit]
 have jf:=F8 (some ⟨g,off,none⟩) n c i (by omega);have ki:=bT (some ⟨g,off,none⟩) n c (i + 1) (by omega);rw [bt] at ki;simp only [Int.natCast_add,Int.cast_ofNat_Int] at ki;obtain ⟨inf,wc,kf,rd,af⟩:=info_parts G8;have hr:=fun ty=>zD (P:=Tryz.prog) w.drew 66 ty 48 inf 13 SX wc rd g off i c cur _ hg ⟨g,to,none⟩ (n - (i + 1)) (c - (i + 1)) (DC (l.drop (i + 1))) (by rw [gB,td]) (fun j u hu=>by rw [Addr.add_lit]; exact hd.cells j u hu) (dO _) (by omega) (by rw [gB,td]; omega)
 have hE:=dG.app (w:=w.drew) (c:=c) (off:=off) (l:=l.take i) (r:=l.drop (i + 1)) hg (by omega) xq (by rw [nh,td]; omega);rw [nh,hN] at hE;obtain ⟨w1,uh⟩:∃ w1,w1=w.drew.setRow g (cur.toList.take (off + i * 13)++DC (l.drop (i + 1))++cur.toList.drop (off + i * 13 + (DC (l.drop (i + 1))).length)).toArray:=⟨_,rfl⟩;have gd:WA (fun b=>b=g) w w1:=by rw [uh]; exact ((WA.refl (fun b=>b=g) w).drew).setRow (fun _=>rfl) _
 rw [<- uh] at hE;simp only [<- uh] at hr;clear uh tl hd hg hN rb xq bt;have HE:=aO hE;have HK:=aO gd;have HT:=aO nh;have HD:=aO td;have HN:=aO hn;clear h hE gd nh td hn
 go_enter Tryz.func69,Tryz.ntmps69
 go_wp2_with fail
 go_region_held3 (fun _=>True) (trivial) (refine CL rfl _ _ _ _ rfl _ _ rfl rfl (hr _) ?_)
 have gd:i + (n - (i + 1)) + 1=n:=by omega
 have ff:(l.take i++l.drop (i + 1)).length=i + (n - (i + 1)):=by rw [y9,HT.out,HD.out]
 have ib:l.eraseIdx i=l.take i++l.drop (i + 1):=List.eraseIdx_eq_take_drop_succ l i;generalize i + (n - (i + 1))=k at *
 generalize l.take i++l.drop (i + 1)=l' at *
 subst ff;have cj:=mylh (some ⟨g,off,none⟩) l'.length c l'.length n (by omega) (by omega);rw [if_neg (by omega),yd,Addr.add_lit] at cj;obtain ⟨w2,iw,ls,um⟩:=HE.out.clear 0 (n - l'.length) (c - l'.length) (by omega);have HO2:=aO ls;have HEL:=aO ib;clear ls ib jf ki hr HE HT HD HN
 go_wp2_with fail
 go_ret
 rw [HEL.out];exact ⟨c,rfl,HO2.out,HK.out.trans um (fun _ _ h=>h)⟩
end
section
open Go Go.RowKit
def qW (w:World) (v:Value) (l:List TF) (e:Ending) (w':World):Prop:=∃ g c N,e=.returned (.slice (some ⟨g,0,none⟩) l.length c)/\dG w' g 0 c N l/\WA (fun b=>FH v=some b) w w'/\(w.heap.size<=g\/FH v=some g/\∃ cur ty,w.heap[g]?=some (.cells cur ty (0,0))/\cur.size=N)
def xI (w:World) (vb vo:Nat) (x:TF):Prop:=∀ (j:Nat) (u:Value),x.cells[j]?=some u->w.cell? ⟨vb,vo + j,none⟩=some u
theorem xI.congr {w w':World} {vb vo:Nat} {x:TF} (h:xI w vb vo x) (he:w'.heap[vb]?=w.heap[vb]?):xI w' vb vo x:=fun j u hu=>by
 have:=h j u hu;unfold World.cell? at this ⊢;simp only [he];exact this
theorem xI.first {w:World} {vb vo:Nat} {x:TF} (h:xI w vb vo x):∃ u,w.cell? ⟨vb,vo,none⟩=some u:=by
 have hl:=x.len;obtain ⟨u,hu⟩:∃ u,x.cells[0]?=some u:=⟨_,yn (by omega)⟩;exact ⟨u,h 0 u hu⟩
theorem xI.lt {w:World} {vb vo:Nat} {x:TF} (h:xI w vb vo x):vb<w.heap.size:=by
 obtain ⟨u,hu⟩:=h.first;obtain ⟨c,ty,fz,hc,_⟩:=jH hu;exact uA hc
theorem A8 (w:World) (ty:TypeId) (v:Value) (l:List TF) (x:TF) (vb vo mc:Nat) (h:M9 w v l) (hx:xI w vb vo x) (da:l.length<=900) :
  ∃ v' w',(Builtin.append_ #[66,66] ty #[v,.slice (some ⟨vb,vo,none⟩) 1 mc]).run Tryz.prog w=.ok v' w'/\qW w v (l++[x]) (.returned v') w':=by
 obtain ⟨inf,wc,kf,rd,af⟩:=info_parts G8;have fb:∀ j u,(DC [x])[j]?=some u->w.cell? ((⟨vb,vo,none⟩:Addr).add j)=some u:=fun j u hu=>by
  rw [Addr.add_lit];exact hx j u (by simpa [DC] using hu)
 rcases h with ⟨rfl,rfl⟩ | ⟨g,c,N,rfl,hE⟩
 ·obtain ⟨cap,ia,g1,g2,g3,g4,hr⟩:=FB (P:=Tryz.prog) w 66 ty 48 inf _ 13 160 SX wc kf rd af rfl none 0 0 [] rfl (fun h0=>absurd h0 (by omega)) (fun _=>⟨rfl,rfl⟩) ⟨vb,vo,none⟩ 1 mc (DC [x]) (gB _) fb (by omega) (y6 _) (by omega) (by omega);refine ⟨_,_,hr,w.heap.size,cap,ia.size,rfl,⟨⟨ia,_,heap_alloc_new w.drew _,rfl,by omega,?_⟩,g1⟩,WA.of_below (xJ ((Below.refl _ _).alloc (y6 _) _)) _,.inl (y6 _)⟩;rw [yC];exact g4
 ·have hc:=hE.len;by_cases ua:l.length + 1<=c
  ·obtain ⟨⟨cur,t0,h1,hN,h2,h3⟩,h4⟩:=hE;have hr:=zD (P:=Tryz.prog) w 66 ty 48 inf 13 SX wc rd g 0 l.length c cur _ h1 ⟨vb,vo,none⟩ 1 mc (DC [x]) (gB _) fb (dO _) ua (by rw [gB]; simp; omega);have hE:=dG.app (c:=c) (off:=0) (l:=l) (r:=[x]) h1 (by omega) h3 ua;rw [hN] at hE;exact ⟨_,_,hr,g,c,N,by rw [y9]; rfl,hE,(WA.refl (fun b=>FH (.slice (some ⟨g,0,none⟩) l.length c)=some b) w).setRow (fun _=>rfl) _,.inr ⟨rfl,cur,t0,h1,hN⟩⟩
  ·obtain ⟨cap,ia,g1,g2,g3,g4,hr⟩:=FB (P:=Tryz.prog) w 66 ty 48 inf _ 13 160 SX wc kf rd af rfl (some ⟨g,0,none⟩) l.length c (DC l) (gB l) (fun h0=>⟨_,rfl,fun j u hu=>by rw [Addr.add_lit]; exact hE.cells j u hu⟩) (fun hA=>nomatch hA) ⟨vb,vo,none⟩ 1 mc (DC [x]) (gB _) fb (by omega) hc (by omega) (by omega);refine ⟨_,_,hr,w.heap.size,cap,ia.size,by rw [y9]; rfl,⟨⟨ia,_,heap_alloc_new w.drew _,rfl,by omega,?_⟩,by rw [y9]; exact g1⟩,WA.of_below (xJ ((Below.refl _ _).alloc (y6 _) _)) _,.inl (y6 _)⟩;rw [yC,y9,EF];exact g4
theorem M9.shape {w:World} {v:Value} {l:List TF} (h:M9 w v l):∃ A c,v=.slice A l.length c/\l.length<=c/\(A=none->c=0):=by
 rcases h with ⟨rfl,rfl⟩ | ⟨g,c,N,rfl,h⟩
 ·exact ⟨none,0,rfl,y6 _,fun _=>rfl⟩
 ·exact ⟨_,c,rfl,h.len,fun h=>by cases h⟩
set_option maxHeartbeats 1000000 in
theorem EZ (A:Option Addr) (n c vb vo mc:Nat) (w:World) (hc:n<=c) (da:n<=900) {v':Value} {w':World} (hr:(Builtin.append_ #[66,66] 66 #[.slice A n c,.slice (some ⟨vb,vo,none⟩) 1 mc]).run Tryz.prog w=.ok v' w') :
  Calls Tryz.prog 68 #[.slice A n c,.int .i64 n,.slice (some ⟨vb,vo,none⟩) 1 mc] w fun e w2=>e=.returned v'/\w2=w':=by
 have jf:=bT A n c n (y6 _);generalize io:(if c=n then A else A.map (·.add (n * 13)))=A1 at jf;clear io
 go_enter Tryz.func68,Tryz.ntmps68
 go_wp2_with (at_builtin; refine OD _ rfl _ _ _ _ rfl _ _ rfl rfl hr ?_)
 go_ret
 exact ⟨rfl,rfl⟩
theorem myend (v:Value) (l:List TF) (x:TF) (n vb vo mc:Nat) (w:World) (hn:l.length=n) (h:M9 w v l) (hx:xI w vb vo x) (da:n<=900) :
  Calls Tryz.prog 68 #[v,.int .i64 n,.slice (some ⟨vb,vo,none⟩) 1 mc] w (qW w v (l++[x])):=by
 obtain ⟨v',w',hr,h1⟩:=A8 w 66 v l x vb vo mc h hx (by omega);obtain ⟨A,c,hv,hc,pg⟩:=h.shape;rw [hn] at hv hc;subst hv;refine (EZ A n c vb vo mc w hc da hr).mono ?_;rintro e w2 ⟨rfl,rfl⟩;exact h1
theorem S8 (A:Option Addr) (x:TF) (vb vo mc:Nat) (w:World) (hx:xI w vb vo x) :
  Calls Tryz.prog 68 #[.slice A 0 0,.int .i64 0,.slice (some ⟨vb,vo,none⟩) 1 mc] w fun e w'=>∃ g c N,e=.returned (.slice (some ⟨g,0,none⟩) 1 c)/\dG w' g 0 c N [x]/\WA (fun _=>False) w w'/\w.heap.size<=g:=by
 obtain ⟨inf,wc,kf,rd,af⟩:=info_parts G8;have fb:∀ j u,(DC [x])[j]?=some u->w.cell? ((⟨vb,vo,none⟩:Addr).add j)=some u:=fun j u hu=>by
  rw [Addr.add_lit];exact hx j u (by simpa [DC] using hu)
 obtain ⟨cap,ia,g1,g2,g3,g4,hr⟩:=FB (P:=Tryz.prog) w 66 66 48 inf _ 13 160 SX wc kf rd af rfl A 0 0 [] rfl (fun h0=>absurd h0 (by omega)) (fun _=>⟨rfl,rfl⟩) ⟨vb,vo,none⟩ 1 mc (DC [x]) (gB _) fb (by omega) (y6 _) (by omega) (by omega);refine (EZ A 0 0 vb vo mc w (y6 _) (by omega) hr).mono ?_;rintro e w2 ⟨rfl,rfl⟩;refine ⟨w.heap.size,cap,ia.size,rfl,⟨⟨ia,_,heap_alloc_new w.drew _,rfl,by omega,?_⟩,g1⟩,WA.of_below (xJ ((Below.refl _ _).alloc (y6 _) _)) _,y6 _⟩;rw [yC];exact g4
set_option maxHeartbeats 1000000 in
theorem p6 (g c N vb vo mc:Nat) (l:List TF) (x:TF) (n i:Nat) (w:World) (hn:l.length=n) (hi:i<n) (da:n<=1000) (h:dG w g 0 c N l) (ua:n + 1<=c) (hx:xI w vb vo x) (db:vb≠g) :
  Calls Tryz.prog 68 #[.slice (some ⟨g,0,none⟩) n c,.int .i64 i,.slice (some ⟨vb,vo,none⟩) 1 mc] w fun e w'=>e=.returned (.slice (some ⟨g,0,none⟩) (n + 1) c)/\dG w' g 0 c N (l.take i++x :: l.drop i)/\WA (fun b=>b=g) w w':=by
 have so:=h.lt;have zg:=h.drop (k:=i) (by omega);obtain ⟨L,t0,ri,sq,mo,rq⟩:=h.list;obtain ⟨u0,ot⟩:=hx.first;have wx:∀ lb cb,(callFunc 107 #[.slice (some ⟨vb,vo,none⟩) 1 mc,.slice (some ⟨g,(i + 1) * 13,none⟩) lb cb]).run Tryz.prog w=.ok (.value (.bool false)) w:=fun lb cb=>by
  rw [run_callFunc_extern (P:=Tryz.prog) (e:=Extern.SlicesOverlaps.overlaps #[66,66] #[4]) Tryz.func107 (by kernel_rfl) (by kernel_rfl) (by kernel_rfl) (by kernel_rfl),
   dJ w 66 4 48 SX 13 mysiz ⟨vb,vo,none⟩ ⟨g,(i + 1) * 13,none⟩ 1 mc lb cb db u0 ot L.toArray t0 ri (by rw [yu]; omega)]
  rfl
 have af:¬ ((i:Int)=(n:Int)):=by omega
 have mixed:Tryz.prog.follows .mixedOrders=true:=by kernel_rfl
 have td:(l.drop i).length=n - i:=by rw [yg,hn]
 have uh:IntKind.i64.wrap ((i:Int) + 1)=(i:Int) + 1:=IntWalk.i64_in _ (by omega);have my:IntKind.i64.wrap ((n:Int) + 1)=(n:Int) + 1:=IntWalk.i64_in _ (by omega);have hA:∀ k,k<c->(if c=k then some (⟨g,0,none⟩:Addr) else (some (⟨g,0,none⟩:Addr)).map (·.add (k * 13)))=some ⟨g,k * 13,none⟩:=fun k hk=>by rw [if_neg (by omega)]; simp [Addr.add_lit]
 have jf:=bT (some ⟨g,0,none⟩) n c i (by omega);have ki:=F8 (some ⟨g,0,none⟩) n c (n + 1) (by omega);have cj:=bT (some ⟨g,0,none⟩) (n + 1) c (i + 1) (by omega);have tp:=bT (some ⟨g,0,none⟩) (n + 1) c i (by omega);rw [hA i (by omega)] at jf tp;rw [hA (i + 1) (by omega)] at cj;rw [Nat.add_sub_add_right] at cj;simp only [Int.natCast_add,Int.cast_ofNat_Int] at ki cj;have me:∀ ty dc sc,(Builtin.copy_ #[66,66] ty #[.slice (some ⟨g,(i + 1) * 13,none⟩) (n - i) dc,.slice (some ⟨g,i * 13,none⟩) (n + 1 - i) sc]).run Tryz.prog w.drew=.ok (goInt (Nat.min (n + 1 - i) (n - i):Nat)) (w.drew.setRow g (lay L ((i + 1) * 13) (DC (l.drop i))).toArray):=fun ty dc sc =>
  qR w.drew ty t0 g ((i + 1) * 13) (n - i) dc ⟨g,i * 13,none⟩ (n + 1 - i) sc L (DC (l.drop i)) ri (by rw [gB,td]; congr 1; simp only [Nat.min_def]; split <;> omega)
   (fun j v hj=>by
    have:=h.cells (i * 13 + j) v (by rw [<- RF,yj] at hj; exact hj);rw [Addr.add_lit]
    rwa [yb] at this) (by rw [gB,td]; omega) (dO _)
 have oh:=x.len;have h1l:(i + 1) * 13 + (DC (l.drop i)).length<=L.length:=by rw [gB,td]; omega
 obtain ⟨L1,tc⟩:∃ L1,L1=lay L ((i + 1) * 13) (DC (l.drop i)):=⟨_,rfl⟩;have ko:L1.length=L.length:=by rw [tc]; exact iD h1l
 rw [<- tc] at me;obtain ⟨W1,zf⟩:∃ W1,W1=w.drew.setRow g L1.toArray:=⟨_,rfl⟩;have od:W1.heap[g]?=some (.cells L1.toArray t0 (0,0)):=by rw [zf]; exact setRow_heap w.drew g _ _ _ _ ri
 have mj:xI W1 vb vo x:=hx.congr (by rw [zf,setRow_other _ _ _ _ db]; rfl);have gd:WA (fun b=>b=g) w W1:=by rw [zf]; exact ((WA.refl (fun b=>b=g) w).drew).setRow (fun _=>rfl) _
 have rg:∀ ty dc,(Builtin.copy_ #[66,66] ty #[.slice (some ⟨g,i * 13,none⟩) (n + 1 - i) dc,.slice (some ⟨vb,vo,none⟩) 1 mc]).run Tryz.prog W1=.ok (goInt (Nat.min 1 (n + 1 - i):Nat)) (W1.setRow g (lay L1 (i * 13) x.cells).toArray):=fun ty dc =>
  qR W1 ty t0 g (i * 13) (n + 1 - i) dc ⟨vb,vo,none⟩ 1 mc L1 x.cells od (by rw [oh]; simp only [Nat.min_def]; split <;> omega) (fun j v hj=>by rw [Addr.add_lit]; exact mj j v hj) (by omega) x.one
 rw [<- zf] at me;have hE:dG (W1.setRow g (lay L1 (i * 13) x.cells).toArray) g 0 c L.length (l.take i++x :: l.drop i):=dG.ins (c:=c) (off:=0) (l:=l) (i:=i) (L:=L) (by omega) mo rq (by omega) (by rw [yb,yb,<- tc]; exact setRow_heap W1 g _ _ _ _ od);rw [sq] at hE;have HE:=aO hE;have HK:=aO gd;clear hE gd h ri mo rq sq od mj zf tc hx zg ot
 go_enter Tryz.func68,Tryz.ntmps68
 go_wp2_with (simp only [wx])
 go_region_law_o (refine oE rfl _ _ 66 66 rfl _ _ (by simp [Act.eval,Act.put]) (by simp [Act.eval,Act.put]) (me _ _ _) ?_)
 go_wp2_with (at_builtin; refine aD _ rfl _ _ 66 66 rfl _ _ rfl rfl (rg _ _) ?_)
 go_ret
 exact ⟨rfl,HE.out,HK.out.setRow (fun _=>rfl) _⟩
theorem myu3:Tryz.prog.underlying 3=some (.int .i64):=by kernel_rfl
set_option maxHeartbeats 1000000 in
theorem D8 (g c N vb vo mc:Nat) (l:List TF) (x:TF) (n i:Nat) (w:World) (hn:l.length=n) (hi:i<n) (da:n<=900) (h:dG w g 0 c N l) (ua:¬ n + 1<=c) (hx:xI w vb vo x) :
  Calls Tryz.prog 68 #[.slice (some ⟨g,0,none⟩) n c,.int .i64 i,.slice (some ⟨vb,vo,none⟩) 1 mc] w (qW w (.slice (some ⟨g,0,none⟩) n c) (l.take i++x :: l.drop i)):=by
 have zd:n<=c:=by have:=h.len; omega
 have so:=h.lt;have ly:=hx.lt;obtain ⟨inf,wc,kf,rd,af⟩:=info_parts G8;have uy:¬ ((i:Int)=(n:Int)):=by omega
 have mixed:Tryz.prog.follows .mixedOrders=true:=by kernel_rfl
 have td:(l.drop i).length=n - i:=by rw [yg,hn]
 have nh:(l.take i).length=i:=by rw [yc]; omega
 have uh:IntKind.i64.wrap ((i:Int) + 1)=(i:Int) + 1:=IntWalk.i64_in _ (by omega);have my:IntKind.i64.wrap ((n:Int) + 1)=(n:Int) + 1:=IntWalk.i64_in _ (by omega);have hw3:IntKind.i64.wrap ((n:Int) + 1 - (i:Int))=((n + 1 - i:Nat):Int):=by rw [IntWalk.i64_in _ (by omega)]; omega
 have jf:=bT (some ⟨g,0,none⟩) n c i (by omega);rw [if_neg (by omega),yd,Addr.add_lit,yb] at jf;have ki:=F8 (some ⟨g,0,none⟩) n c i (by omega);have zg:=h.take (k:=i) (by omega);have br:=run_firstCells_some (P:=Tryz.prog) w.drew inf.size i ⟨g,0,none⟩ i c (DC (l.take i)) (by rw [gB,nh,rd]) (fun j u hu=>by rw [Addr.add_lit]; exact zg.cells j u hu);have co:Builtin.nextslicecap (i + (n + 1 - i)) c * inf.bytes<=281474976710656:=by
  have h1:Builtin.nextslicecap (i + (n + 1 - i)) c<=2 * (i + (n + 1 - i)):=nextslicecap_le (by omega);rw [af];omega
 have tj:=fun ty=>Lib.run_append_grow_zeros (P:=Tryz.prog) w 66 3 ty 48 inf _ .i64 .i64 SX myu3 wc kf (some ⟨g,0,none⟩) i c (DC (l.take i)) br (n + 1 - i) (by omega) (by omega) (by omega) (by omega) (by rw [af]; omega) co
 have e1:i + (n + 1 - i)=n + 1:=by omega
 rw [e1] at tj co;have cw:=grownCap_ge w (n + 1) c 48;have ml:=grownCap_le_maxLen w (n + 1) c 48 (by have:maxLen=9223372036854775807:=rfl; omega);generalize grownCap w (n + 1) c 48=cap at tj cw ml;obtain ⟨L,hL⟩:∃ L:List Value,((DC (l.take i)).toArray++Builtin.zeroCells d7.cells (n + 1 - i)++Builtin.zeroCells d7.cells (cap - (n + 1)))=L.toArray:=⟨_,rfl⟩;have hLl:L.length=cap * 13:=by
  have:=congrArg Array.size hL;simp only [Array.size_append,size_zeroCells,yu,gB,nh] at this;have h5:d7.cells.size=13:=rfl;rw [h5] at this;omega
 have tq:∀ j,j<i * 13->L[j]?=(DC l)[j]?:=fun j hj=>by
  have h1:L[j]?=(L.toArray)[j]?:=by simp
  rw [h1,<- hL,Array.append_assoc,Array.getElem?_append_left (by simp [gB,nh]; omega)];simp only [List.getElem?_toArray];rw [<- uJ,ym,if_pos hj]
 rw [hL] at tj;clear hL;have oh:=x.len;have xp:∀ k,k<cap->∀ W,(Instr.slice 66 (.slice (some ⟨w.heap.size,0,none⟩) (n + 1) cap) (some (.int .i64 (k:Int))) none none).run Tryz.prog W=(if k<=n + 1 then .ok (.slice (some ⟨w.heap.size,k * 13,none⟩) (n + 1 - k) (cap - k)) W else (Instr.slice 66 (.slice (some ⟨w.heap.size,0,none⟩) (n + 1) cap) (some (.int .i64 (k:Int))) none none).run Tryz.prog W):=fun k hk W=>by
  split
  ·rename_i h;have:=bT (some ⟨w.heap.size,0,none⟩) (n + 1) cap k h W;rw [if_neg (by omega),yd,Addr.add_lit,yb] at this;exact this
  ·rfl
 have cj:=fun W=>(xp i (by omega) W).trans (by rw [if_pos (by omega)])
 have tp:=fun W=>(xp (i + 1) (by omega) W).trans (by rw [if_pos (by omega)])
 simp only [Nat.add_sub_add_right,Int.natCast_add,Int.cast_ofNat_Int] at tp;clear xp;obtain ⟨W0,dm⟩:∃ W0,W0=w.drew.alloc (.cells L.toArray 48):=⟨_,rfl⟩;have wh:W0.heap[w.heap.size]?=some (.cells L.toArray 48 (0,0)):=by rw [dm]; exact heap_alloc_new w.drew _
 have zo:Below w.heap.size w W0:=by rw [dm]; exact xJ ((Below.refl _ _).alloc (y6 _) _)
 rw [<- dm] at tj;have lj:xI W0 vb vo x:=hx.congr (zo.block vb ly);have me:∀ ty dc,(Builtin.copy_ #[66,66] ty #[.slice (some ⟨w.heap.size,i * 13,none⟩) (n + 1 - i) dc,.slice (some ⟨vb,vo,none⟩) 1 mc]).run Tryz.prog W0=.ok (goInt (Nat.min 1 (n + 1 - i):Nat)) (W0.setRow w.heap.size (lay L (i * 13) x.cells).toArray):=fun ty dc =>
  qR W0 ty _ w.heap.size (i * 13) (n + 1 - i) dc ⟨vb,vo,none⟩ 1 mc L x.cells wh (by rw [oh]; simp only [Nat.min_def]; split <;> omega) (fun j v hj=>by rw [Addr.add_lit]; exact lj j v hj) (by omega) x.one
 have h1l:i * 13 + x.cells.length<=L.length:=by omega
 obtain ⟨L1,tc⟩:∃ L1,L1=lay L (i * 13) x.cells:=⟨_,rfl⟩;have ko:L1.length=L.length:=by rw [tc]; exact iD h1l
 obtain ⟨W1,zf⟩:∃ W1,W1=W0.setRow w.heap.size L1.toArray:=⟨_,rfl⟩;rw [<- tc,<- zf] at me;have od:W1.heap[w.heap.size]?=some (.cells L1.toArray 48 (0,0)):=by rw [zf]; exact setRow_heap W0 w.heap.size _ _ _ _ wh
 have gd:Below w.heap.size w W1:=by rw [zf]; exact zo.trans ⟨rfl,rfl,rfl,by simp,fun k hk=>setRow_other W0 w.heap.size k _ (by omega)⟩
 have jo:=(h.drop (k:=i) (by omega)).keep (WA.of_below gd (fun _=>False)) (fun h=>h);rw [if_neg (by omega),yb] at jo;have rg:∀ ty dc sc,(Builtin.copy_ #[66,66] ty #[.slice (some ⟨w.heap.size,(i + 1) * 13,none⟩) (n - i) dc,.slice (some ⟨g,i * 13,none⟩) (n - i) sc]).run Tryz.prog W1.drew=.ok (goInt (Nat.min (n - i) (n - i):Nat)) (W1.drew.setRow w.heap.size (lay L1 ((i + 1) * 13) (DC (l.drop i))).toArray):=fun ty dc sc =>
  qR W1.drew ty _ w.heap.size ((i + 1) * 13) (n - i) dc ⟨g,i * 13,none⟩ (n - i) sc L1 (DC (l.drop i)) od (by rw [gB,td]; congr 1; simp only [Nat.min_def]; split <;> omega)
   (fun j v hj=>by rw [Addr.add_lit]; exact jo.cells j v hj) (by rw [gB,td]; omega) (dO _)
 obtain ⟨W2,am⟩:∃ W2,W2=W1.drew.setRow w.heap.size (lay L1 ((i + 1) * 13) (DC (l.drop i))).toArray:=⟨_,rfl⟩;have hE:dG W2 w.heap.size 0 cap L.length (l.take i++x :: l.drop i):=dG.ins2 (c:=cap) (l:=l) (i:=i) (L:=L) (by omega) (by omega) tq (by omega) (by rw [am,<- tc]; exact setRow_heap W1.drew w.heap.size _ _ _ _ od);have um:Below w.heap.size w W2:=by rw [am]; exact gd.trans ⟨rfl,rfl,rfl,by simp,fun k hk=>setRow_other W1.drew w.heap.size k _ (by have:=gd.size; omega)⟩
 rw [<- am] at rg;have nc:(l.take i++x :: l.drop i).length=n + 1:=by simp; omega
 have HE:=aO hE;have HK:=aO um;have HL:=aO nc;clear hE um gd zo jo h zg br wh lj od dm zf am tc hx nc tq
 go_enter Tryz.func68,Tryz.ntmps68
 go_wp2_with (first | (at_builtin; refine OD _ rfl _ _ _ _ rfl _ _ rfl rfl (tj _) ?_) | (at_builtin; refine aD _ rfl _ _ 66 66 rfl _ _ rfl rfl (me _ _) ?_))
 go_region_law_o (refine oE rfl _ _ 66 66 rfl _ _ (by simp [Act.eval,Act.put]) (by simp [Act.eval,Act.put]) (rg _ _ _) ?_)
 go_wp2_with fail
 go_ret
 exact ⟨w.heap.size,cap,_,congrArg (fun k=>Ending.returned (Value.slice (some ⟨w.heap.size,0,none⟩) k cap)) HL.out.symm,HE.out,WA.of_below HK.out _,.inl (y6 _)⟩
theorem TZ (v:Value) (l:List TF) (x:TF) (i vb vo mc:Nat) (w:World) (hi:i<=l.length) (h:M9 w v l) (hx:xI w vb vo x) (db:FH v≠some vb) (da:l.length<=900) :
  Calls Tryz.prog 68 #[v,.int .i64 i,.slice (some ⟨vb,vo,none⟩) 1 mc] w (qW w v (l.take i++x :: l.drop i)):=by
 by_cases hn:i=l.length
 ·have:=myend v l x l.length vb vo mc w rfl h hx da;rw [hn,List.take_length,List.drop_length];exact this
 ·rcases h with ⟨rfl,rfl⟩ | ⟨g,c,N,rfl,hE⟩
  ·exact absurd (Nat.le_zero.1 hi) hn
  ·by_cases ua:l.length + 1<=c
   ·obtain ⟨⟨cur,ty,h1,h2,_⟩,_⟩:=id hE;refine (p6 g c N vb vo mc l x l.length i w rfl (by omega) (by omega) hE ua hx (fun h=>db (by rw [h]; rfl))).mono ?_;rintro e w' ⟨rfl,h3,h4⟩;refine ⟨g,c,N,?_,h3,h4.mono fun i _ h=>by subst h; rfl,.inr ⟨rfl,cur,ty,h1,h2⟩⟩;congr 2;simp; omega
   ·exact D8 g c N vb vo mc l x l.length i w rfl (by omega) da hE ua hx
end
section
open Go Go.RowKit
variable {w w':World}
theorem EG {av:Av}:∀ {xs:List AV} {us:List Value} (k:Nat),IA av w xs us->IA av w (xs.take k) (us.take k)
 | [],_,_,h=>by simp only [IA] at h; subst h; simp [IA]
 | x :: r,_,0,h=>by simp [IA]
 | x :: r,_,k + 1,h=>by
  simp only [IA] at h;obtain ⟨u,na,rfl,h0,h1,h⟩:=h;exact ⟨u,na.take k,rfl,h0,h1,EG k h⟩
theorem QG {av:Av}:∀ {xs:List AV} {us:List Value} (k:Nat),IA av w xs us->IA av w (xs.drop k) (us.drop k)
 | [],_,_,h=>by simp only [IA] at h; subst h; simp [IA]
 | x :: r,_,0,h=>h
 | x :: r,_,k + 1,h=>by
  simp only [IA] at h;obtain ⟨u,na,rfl,h0,h1,h⟩:=h;exact QG k h
theorem JC {z:Nat}:∀ {l:List (List AV)},UA z l=true->l.flatten.length=l.length * z
 | [],_=>by simp
 | c :: l,h=>by
  rw [lB,y7,decide_eq_true_eq] at h;rw [yi,y9,JC h.2,h.1,yz,Nat.add_mul]; omega
theorem mF {z:Nat}:∀ {l:List (List AV)} (k:Nat),UA z l=true->(l.take k).flatten=l.flatten.take (k * z)
 | [],k,_=>by simp
 | c :: l,0,_=>by simp
 | c :: l,k + 1,h=>by
  rw [lB,y7,decide_eq_true_eq] at h;have e:(k + 1) * z=c.length + k * z:=by rw [h.1,Nat.add_mul]; omega
  rw [List.take_succ_cons,yi,yi,mF k h.2,e,List.take_length_add_append]
theorem nF {z:Nat}:∀ {l:List (List AV)} (k:Nat),UA z l=true->(l.drop k).flatten=l.flatten.drop (k * z)
 | [],k,_=>by simp
 | c :: l,0,_=>by simp
 | c :: l,k + 1,h=>by
  rw [lB,y7,decide_eq_true_eq] at h;have e:(k + 1) * z=c.length + k * z:=by rw [h.1,Nat.add_mul]; omega
  rw [List.drop_succ_cons,yi,nF k h.2,e,List.drop_length_add_append]
theorem MG {av:Av} {g0:Nat->Prop} {g:Nat} (hK:WA g0 w w') (ub:∀ b,g0 b->∀ o,av b o) (hg:w.heap.size<=g\/g0 g):xA av (fun b o=>av b o\/b=g) w w':=by
 refine ⟨fun b o u hc hn=>?_⟩;have eb:b<w.heap.size:=by
  unfold World.cell? at hc;split at hc
  ·rename_i h;exact (Array.getElem?_eq_some_iff.1 h).1
  ·cases hc
 have tu:¬ g0 b:=fun h=>hn (ub b h o)
 refine ⟨?_,fun h=>?_⟩
 ·have:=hK.block b eb tu;unfold World.cell? at hc ⊢;simp only [this];exact hc
 ·rcases h with h | h
  ·exact hn h
  ·subst h;rcases hg with hg | hg
   ·omega
   ·exact tu hg
end
section
open Go Go.RowKit
theorem cT {av:Av} {w:World} {v0:Value} {g0:Nat->Prop} {E:List TF} {l:List (List AV)} {x:List AV} {xe:TF} {k vb vo c:Nat} (hk:k<=E.length) (hO:M9 w v0 E) (xb:xI w vb vo xe) (zp:¬ av vb vo) (sb:IA av w x xe.cells) (hl:IA av w l.flatten (DC E)) (ib:UA 13 (x :: l)=true) (da:l.length=E.length) (h9:l.length<=900) (hb:∀ b,FH v0=some b->g0 b) (hg:∀ b,g0 b->∀ o,av b o) :
  Calls Tryz.prog 68 #[v0,.int .i64 k,.slice (some ⟨vb,vo,none⟩) 1 c] w fun e w'=>∃ v,e=.returned v/\SQ w g0 13 av w' (l.take k++x :: l.drop k) v/\WA g0 w w':=by
 rw [lB,y7,decide_eq_true_eq] at ib;refine (TZ v0 E xe k vb vo c w hk hO xb (fun h=>zp (hg vb (hb vb h) vo)) (by omega)).mono ?_;rintro e w' ⟨g,c',N,rfl,⟨⟨ia,ae,e1,e2,e3,e4⟩,e5⟩,hK,ad⟩;have ec:WA g0 w w':=hK.mono (fun i _ h=>hb i h);have nc:(l.take k++x :: l.drop k).length=(E.take k++xe :: E.drop k).length:=by simp [da]
 have hz:UA 13 (l.take k++x :: l.drop k)=true:=by rw [nD,lB,XD ib.2,xF ib.2,ib.1]; rfl
 have held:=MG ec hg (g:=g) (by rcases ad with h | ⟨h,_⟩; exact .inl h; exact .inr (hb g h));refine ⟨_,rfl,⟨g,c',ia,ae,by rw [nc],?_,e1,by rw [nc]; exact e5,by omega,?_⟩,ec⟩
 ·rcases ad with h | ⟨h,cur,ty,h1,h2⟩
  ·exact .inl h
  ·exact .inr ⟨hb g h,cur,ty,h1,by omega⟩
 ·rw [yC] at e4;rw [JC hz,nc,e4,List.flatten_append,yi,mF k ib.2,nF k ib.2,EF,rH,<- uJ,<- RF];exact IA.held held _ _ (EB (EG _ hl) (EB sb (QG _ hl)))
theorem xT {av:Av} {w:World} {g0:Nat->Prop} {E:List TF} {l:List (List AV)} {k g c N:Nat} (hk:k<E.length) (hO:dG w g 0 c N E) (hl:IA av w l.flatten (DC E)) (ib:UA 13 l=true) (da:l.length=E.length) (h9:l.length<=900) (hb:∀ b,g0 b ↔ b=g) (hg:∀ o,av g o) :
  Calls Tryz.prog 69 #[.slice (some ⟨g,0,none⟩) E.length c,.int .i64 k,.int .i64 ((k:Int) + 1)] w fun e w'=>∃ v,e=.returned v/\SQ w g0 13 av w' (l.take k++l.drop (k + 1)) v/\WA g0 w w':=by
 obtain ⟨⟨cur0,ul,c1,c2,_⟩,_⟩:=id hO;refine (WZ g 0 c N E E.length k w rfl hk (by omega) hO).mono ?_;rintro e w' ⟨c',rfl,⟨⟨ia,ae,e1,e2,e3,e4⟩,e5⟩,hK⟩;have ec:WA g0 w w':=hK.mono (fun i _ h=>(hb i).2 h);rw [List.eraseIdx_eq_take_drop_succ] at e4 e5 ⊢;have nc:(l.take k++l.drop (k + 1)).length=(E.take k++E.drop (k + 1)).length:=by simp [da]
 have hz:UA 13 (l.take k++l.drop (k + 1))=true:=by rw [nD,XD ib,xF ib]; rfl
 have held:=MG ec (fun b h o=>by rw [(hb b).1 h]; exact hg o) (g:=g) (.inr ((hb g).2 rfl));refine ⟨_,rfl,⟨g,c',ia,ae,by rw [nc],.inr ⟨(hb g).2 rfl,cur0,ul,c1,by omega⟩,e1,by rw [nc]; exact e5,by omega,?_⟩,ec⟩;rw [yC] at e4;rw [JC hz,nc,e4,List.flatten_append,mF k ib,nF (k + 1) ib,EF,<- uJ,<- RF];exact IA.held held _ _ (EB (EG _ hl) (QG _ hl))
theorem wW {av:Av} {w:World} {b:Bool} {l:List (List AV)} {v0:Value} {g0:Nat->Prop} (hg:PQ 13 av w b l v0 g0) (ib:UA 13 l=true) (h9:l.length<=900) :
  (l=[]/\(∃ A,v0=.slice A 0 0)/\∀ g,¬ g0 g)\/(b=false/\∃ (E:List TF) (g c N:Nat),E.length=l.length/\v0=.slice (some ⟨g,0,none⟩) E.length c/\(∀ b,g0 b ↔ b=g)/\(∀ o,av g o)/\IA av w l.flatten (DC E)/\dG w g 0 c N E):=by
 rcases hg with ⟨h1,h2,_,h3⟩ | ⟨hb,g,c,cur,ty,hv,h0,hh,hc,hz,ub,hr⟩
 ·exact .inl ⟨h1,h2,h3⟩
 ·have nc:=CB hr;have hf:=JC ib;obtain ⟨E,hE,hC⟩:=mZ l.length (cur.toList.take l.flatten.length) (by rw [<- nc,hf]) (WG hr);refine .inr ⟨hb,E,g,c,cur.size,hE,by rw [hE]; exact hv,h0,ub,by rw [hC]; exact hr,⟨⟨cur,ty,hh,rfl,by omega,?_⟩,by rw [hE]; exact hc⟩⟩;rw [yC,hC,hE,hf]
theorem H8 {av:Av} {w:World} {g0:Nat->Prop} {x:List AV} {xe:TF} {vb vo c:Nat} (A:Option Addr) (xb:xI w vb vo xe) (sb:IA av w x xe.cells) (ib:UA 13 [x]=true) (hg:∀ b,¬ g0 b) :
  Calls Tryz.prog 68 #[.slice A 0 0,.int .i64 0,.slice (some ⟨vb,vo,none⟩) 1 c] w fun e w'=>∃ v,e=.returned v/\SQ w g0 13 av w' [x] v/\WA g0 w w':=by
 refine (S8 A xe vb vo c w xb).mono ?_;rintro e w' ⟨g,c',N,rfl,⟨⟨ia,ae,e1,e2,e3,e4⟩,e5⟩,hK,ad⟩;have ec:WA g0 w w':=hK.mono (fun i _ h=>h.elim);have held:=MG (av:=av) ec (fun b h=>absurd h (hg b)) (g:=g) (.inl ad);refine ⟨_,rfl,⟨g,c',ia,ae,rfl,.inl ad,e1,e5,by simp only [List.length_singleton] at e3 e5 ⊢; omega,?_⟩,ec⟩;rw [yC] at e4;rw [JC ib];have kv:ia.toList.take ([x].length * 13)=DC [xe]:=e4;rw [kv,List.flatten_singleton];have nj:DC [xe]=xe.cells:=by simp [DC]
 rw [nj];exact IA.held held _ _ sb
theorem RZ {O:OB} {b:Bool} {l:List (List AV)} {x:List AV} {i:Int} (h0:0<=i) (h1:i<=l.length) (h9:l.length<=900) (ib:UA 13 (x :: l)=true) :
  EA Tryz.prog O 68 [.undef,.sl b l,.int .i64 i,.sl false [x]] (some (.int .i64 13)) (.sl false (l.take i.toNat++x :: l.drop i.toNat),none):=by
 unfold EA;refine (?_:eD _ _ _ _ _ _);refine ⟨enters_of Tryz.func68 (by kernel_rfl) rfl,?_⟩;intro av w v0 vs g0 ub ka hg;simp only [jC] at ka;obtain ⟨u1,bv,rfl,li,u2,aq,rfl,ug,rfl⟩:=ka;rw [cA] at li;subst li;rw [rB] at ug;simp only [xB] at ug;obtain ⟨A,c,rfl,hc,_,_,hs⟩:=ug;obtain ⟨vb,vo,rfl,ja⟩:=(hs trivial).2 (by simp);rw [bB] at ja;simp only [yi,List.flatten_nil,List.append_nil] at ja;obtain ⟨xs,sb,oh⟩:=KD ja;have zh:=ib;rw [lB,y7,decide_eq_true_eq] at zh;have eu:xs.length=13:=by rw [<- CB sb]; exact zh.1
 have xb:xI w vb vo ⟨xs,eu,WG sb⟩:=fun j u hu=>(oh j u hu).1
 have zp:¬ av vb vo:=by
  have:=(oh 0 _ (yn (by omega))).2
  rwa [Nat.add_zero] at this
 have hi:i=(i.toNat:Int):=by omega
 rcases wW hg zh.2 h9 with ⟨rfl,⟨A0,rfl⟩,fj⟩ | ⟨rfl,E,g,cg,N,hE,rfl,fj,di,hr,hB⟩
 ·have wo:i=0:=by simp at h1; omega
  subst wo;exact H8 A0 xb sb ib fj
 ·have:=cT (v0:=.slice (some ⟨g,0,none⟩) E.length cg) (g0:=g0) (E:=E) (k:=i.toNat) (c:=c) (by omega) (.inr ⟨g,cg,N,rfl,hB⟩) xb zp sb hr ib hE.symm h9 (fun b h=>by simp [FH] at h; exact (fj b).2 h.symm) (fun b h o=>by rw [(fj b).1 h]; exact di o);rw [<- hi] at this;exact this
theorem QZ {O:OB} {l:List (List AV)} {i:Int} (h0:0<=i) (h1:i + 1<=l.length) (h9:l.length<=900) (ib:UA 13 l=true) :
  EA Tryz.prog O 69 [.undef,.sl false l,.int .i64 i,.int .i64 (i + 1)] (some (.int .i64 13)) (.sl false (l.take i.toNat++l.drop (i + 1).toNat),none):=by
 unfold EA;refine (?_:eD _ _ _ _ _ _);refine ⟨enters_of Tryz.func69 (by kernel_rfl) rfl,?_⟩;intro av w v0 vs g0 ub ka hg;simp only [jC] at ka;obtain ⟨u1,bv,rfl,li,u2,aq,rfl,ug,rfl⟩:=ka;rw [cA] at li ug;subst li;subst ug;have hi:i=(i.toNat:Int):=by omega
 rcases wW hg ib h9 with ⟨rfl,_⟩ | ⟨_,E,g,cg,N,hE,rfl,fj,di,hr,hB⟩
 ·simp at h1; omega
 ·have:=xT (k:=i.toNat) (by omega) hB hr ib hE.symm h9 fj di;rw [<- hi] at this;rw [show (i + 1).toNat=i.toNat + 1 from by omega];exact this
end
section
open Go Go.RowKit
structure GF where
 cells:List Value
 len:cells.length=2
 one:∀ u∈cells,u.oneCell'=true
def FC (l:List GF):List Value:=l.flatMap GF.cells
theorem jB (l:List GF):(FC l).length=l.length * 2:=by
 induction l with
 | nil=>rfl
 | cons q l ih=>simp only [FC,List.flatMap_cons,y9,yz,q.len] at ih ⊢; rw [ih]; omega
theorem DF (l r:List GF):FC (l++r)=FC l++FC r:=by simp [FC]
theorem sH (q:GF) (r:List GF):FC (q :: r)=q.cells++FC r:=by simp [FC]
theorem kJ (l:List GF) (k:Nat):(FC l).take (k * 2)=FC (l.take k):=by
 induction l generalizing k with
 | nil=>simp [FC]
 | cons q l ih =>
  cases k with
  | zero=>simp [FC]
  | succ k =>
   have h4:=q.len;rw [sH,List.take_succ_cons,sH,List.take_append,h4,show (k + 1) * 2 - 2=k * 2 from by omega,ih,List.take_of_length_le (by rw [h4]; omega)]
theorem FF (l:List GF) (k:Nat):(FC l).drop (k * 2)=FC (l.drop k):=by
 induction l generalizing k with
 | nil=>simp [FC]
 | cons q l ih =>
  cases k with
  | zero=>simp [FC]
  | succ k =>
   have h4:=q.len;rw [sH,List.drop_succ_cons,List.drop_append,h4,show (k + 1) * 2 - 2=k * 2 from by omega,ih,yD (by rw [h4]; omega),List.nil_append]
theorem kO (l:List GF):∀ u∈FC l,u.oneCell'=true:=by
 intro u hu;simp only [FC,List.mem_flatMap] at hu;obtain ⟨q,_,hq⟩:=hu;exact q.one u hq
theorem Q0:∀ (n:Nat) (vs:List Value),vs.length=n * 2->(∀ u∈vs,u.oneCell'=true)->∃ l:List GF,l.length=n/\FC l=vs
 | 0,vs,h,_=>⟨[],rfl,(yF (by omega)).symm⟩
 | n + 1,vs,h,h1=>by
  obtain ⟨l,hl,hc⟩:=Q0 n (vs.drop 2) (by rw [yg]; omega) (fun u hu=>h1 u (List.mem_of_mem_drop hu));exact ⟨⟨vs.take 2,by rw [yc]; omega,fun u hu=>h1 u (List.mem_of_mem_take hu)⟩ :: l,by simp [hl],by rw [sH,hc]; exact List.take_append_drop _ _⟩
def z7:Value:=.agg #[.int .i64 0,.string ⟨#[]⟩]
theorem DX:Tryz.prog.underlying 65=some (.slice 50):=by kernel_rfl
theorem G9:(Tryz.prog.info? 50).map (fun i=>(i.zero,i.size,i.bytes))=some (some z7,2,24):=by kernel_rfl
theorem sysz:(Tryz.prog.info? 50).map (·.size)=some 2:=by kernel_rfl
theorem syzv (w:World):(zeroValue 50).run Tryz.prog w=.ok z7 w:=by kernel_rfl
theorem F9 (A:Option Addr) (n c k:Nat) (hk:k<=c) (w:World):(Instr.slice 65 (.slice A n c) none (some (.int .i64 k)) none).run Tryz.prog w=.ok (.slice A k c) w:=by
 obtain ⟨i,hi,kf,rd,af⟩:=info_parts G9;exact WY w _ _ i DX hi A n c k hk
theorem ST (A:Option Addr) (n c k:Nat) (hk:k<=n) (w:World):(Instr.slice 65 (.slice A n c) (some (.int .i64 k)) none none).run Tryz.prog w=.ok (.slice (if c=k then A else A.map (·.add (k * 2))) (n - k) (c - k)) w:=by
 obtain ⟨i,hi,kf,rd,af⟩:=info_parts G9;exact RY w _ _ i 2 DX hi rd A n c k hk
theorem sylh (A:Option Addr) (n c k h:Nat) (hk:k<=h) (hh:h<=c) (w:World):(Instr.slice 65 (.slice A n c) (some (.int .i64 k)) (some (.int .i64 h)) none).run Tryz.prog w=.ok (.slice (if c=k then A else A.map (·.add (k * 2))) (h - k) (c - k)) w:=by
 obtain ⟨i,hi,kf,rd,af⟩:=info_parts G9;exact EY w _ _ i 2 DX hi rd A n c k h hk hh
theorem sysiz (w:World):(Go.sizeOf 50).run Tryz.prog w=.ok 2 w:=by kernel_rfl
structure gG (w:World) (g off c N:Nat) (l:List GF):Prop where
 blk:∃ cur ty,w.heap[g]?=some (.cells cur ty (0,0))/\cur.size=N/\off + c * 2<=N/\(cur.toList.drop off).take (l.length * 2)=FC l
 len:l.length<=c
def syO (w:World) (v:Value) (l:List GF):Prop:=(v=.slice none 0 0/\l=[])\/∃ g c N,v=.slice (some ⟨g,0,none⟩) l.length c/\gG w g 0 c N l
section
variable {w w':World} {g off c N:Nat} {l:List GF} {v:Value}
theorem gG.keep {F:Nat->Prop} (h:gG w g off c N l) (hk:WA F w w') (hF:¬ F g):gG w' g off c N l:=by
 obtain ⟨⟨cur,ty,h1,h2,h3⟩,h4⟩:=h;exact ⟨⟨cur,ty,(hk.block g (uA h1) hF).trans h1,h2,h3⟩,h4⟩
theorem gG.lt (h:gG w g off c N l):g<w.heap.size:=by obtain ⟨⟨cur,ty,h1,_⟩,_⟩:=h; exact uA h1
theorem gG.cells (h:gG w g off c N l) (j:Nat) (u:Value) (hu:(FC l)[j]?=some u):w.cell? ⟨g,off + j,none⟩=some u:=by
 obtain ⟨⟨cur,ty,h1,h2,je,h3⟩,h4⟩:=h;rw [cell_of_row w g (off + j) cur _ (0,0) h1];rw [<- h3,ym] at hu;split at hu
 ·rw [yj] at hu; simpa using hu
 ·cases hu
theorem gG.drop (h:gG w g off c N l) {k:Nat} (hk:k<=l.length):gG w g (if c=k then off else off + k * 2) (c - k) N (l.drop k):=by
 obtain ⟨⟨cur,ty,h1,h2,je,h3⟩,h4⟩:=h;have h6:=FF l k;refine ⟨⟨cur,ty,h1,h2,?_,?_⟩,by rw [yg]; omega⟩
 ·split <;> omega
 ·rw [yg,<- h6,<- h3];split
  ·rename_i e;have:l.length=k:=by omega
   rw [this,Nat.sub_self,Nat.zero_mul,List.take_zero,yD (by rw [yc]; omega)]
  ·rw [<- List.drop_drop,List.drop_take,Nat.sub_mul]
theorem gG.take (h:gG w g off c N l) {k:Nat} (hk:k<=l.length):gG w g off c N (l.take k):=by
 obtain ⟨⟨cur,ty,h1,h2,je,h3⟩,h4⟩:=h;refine ⟨⟨cur,ty,h1,h2,je,?_⟩,by rw [yc]; omega⟩;rw [<- kJ,<- h3,List.take_take,yc,Nat.min_eq_left hk,Nat.min_eq_left (by omega)]
end
theorem gG.app {w:World} {g off c:Nat} {l r:List GF} {cur:Array Value} {ty:TypeId} (hg:w.heap[g]?=some (.cells cur ty (0,0))) (h2:off + c * 2<=cur.size) (h3:(cur.toList.drop off).take (l.length * 2)=FC l) (ua:l.length + r.length<=c) :
  gG (w.setRow g (cur.toList.take (off + l.length * 2)++FC r++cur.toList.drop (off + l.length * 2 + (FC r).length)).toArray) g off c cur.size (l++r):=by
 have hr:=jB r;have ig:cur.toList.length=cur.size:=by simp
 refine ⟨⟨_,_,setRow_heap w g cur _ _ _ hg,?_,h2,?_⟩,by rw [y9]; exact ua⟩
 ·simp only [yu,y9,yc,yg,yw,hr];omega
 ·have ht:(cur.toList.take (off + l.length * 2)).length=off + l.length * 2:=by rw [yc]; omega
  have e1:(cur.toList.take (off + l.length * 2)).drop off=FC l:=by rw [List.drop_take,Nat.add_sub_cancel_left,h3]
  simp only;rw [yA,List.drop_append_of_le_length (by omega),e1,DF,y9,Nat.add_mul,<- jB l,<- hr,<- yA,<- y9];exact List.take_left
theorem gG.clear {w:World} {g off c N:Nat} {l:List GF} (h:gG w g off c N l) (ty:TypeId) (n m:Nat) (hn:l.length + n<=c) :
  ∃ w',(Builtin.clear_ #[65] ty #[.slice (some ⟨g,off + l.length * 2,none⟩) n m]).run Tryz.prog w=.ok (.tuple #[]) w'/\gG w' g off c N l/\WA (fun b=>b=g) w w':=by
 obtain ⟨⟨cur,t0,h1,h2,je,h3⟩,h4⟩:=h;have pe:∀ u∈z7.cells.toList,u.oneCell'=true:=fun u hu=>y5.1 (show z7.cells.toList.all (fun u=>u.oneCell')=true by rfl) u hu
 have gf:z7.cells.size=2:=rfl;obtain ⟨w',ia,r1,r2,r3,r4,r5⟩:=eQ (P:=Tryz.prog) w 65 50 t0 ty _ DX (syzv w) pe g (off + l.length * 2) n m cur h1 (by rw [gf]; omega);refine ⟨w',r1,⟨⟨ia,_,r2,by omega,je,?_⟩,h4⟩,r5⟩;have e:∀ L:List Value,(L.drop off).take (l.length * 2)=(L.take (off + l.length * 2)).drop off:=fun L=>by rw [List.drop_take,Nat.add_sub_cancel_left]
 rw [e,r4,<- e,h3]
theorem gR (w:World) (ty t0:TypeId) (g off dLen dCap:Nat) (a:Addr) (sLen sCap:Nat) (L:List Value) (cs:List Value)
  (hg:w.heap[g]?=some (.cells L.toArray t0 (0,0))) (hn:cs.length=Nat.min sLen dLen * 2) (gl:∀ j v,cs[j]?=some v->w.cell? (a.add j)=some v) (ne:off + cs.length<=L.length) (h1:∀ v∈cs,v.oneCell'=true) :
  (Builtin.copy_ #[65,65] ty #[.slice (some ⟨g,off,none⟩) dLen dCap,.slice (some a) sLen sCap]).run Tryz.prog w=.ok (goInt (Nat.min sLen dLen:Nat)) (w.setRow g (lay L off cs).toArray):=by
 have:=OV (P:=Tryz.prog) w 65 65 ty 50 2 DX sysz g off dLen dCap a sLen sCap L.toArray t0 cs hg hn gl (by simpa using ne) h1;exact this
theorem gG.list {w:World} {g off c N:Nat} {l:List GF} (h:gG w g off c N l):∃ (L:List Value) (ty:TypeId),w.heap[g]?=some (.cells L.toArray ty (0,0))/\L.length=N/\off + c * 2<=L.length/\∀ j,j<l.length * 2->L[off + j]?=(FC l)[j]?:=by
 obtain ⟨⟨cur,ty,h1,h2,je,h3⟩,h4⟩:=h;refine ⟨cur.toList,ty,h1,by simpa using h2,by rw [yw]; omega,fun j hj=>?_⟩;rw [<- h3,ym,if_pos hj,yj]
theorem gG.of_list {w:World} {g off c:Nat} {l:List GF} {L:List Value} {ty:TypeId} (h1:w.heap[g]?=some (.cells L.toArray ty (0,0))) (h2:off + c * 2<=L.length) (h3:∀ j,j<l.length * 2->L[off + j]?=(FC l)[j]?) (h4:l.length<=c):gG w g off c L.length l:=by
 refine ⟨⟨_,_,h1,by simp,h2,?_⟩,h4⟩;apply List.ext_getElem?;intro j;rw [ym];split
 ·rename_i hj;rw [yj];exact h3 j hj
 ·rename_i hj;rw [List.getElem?_eq_none (by rw [jB]; omega)]
theorem sW (l:List GF) (x:GF) (i j:Nat) (hi:i<=l.length):(FC (l.take i++x :: l.drop i))[j]?=if j<i * 2 then (FC l)[j]? else if j<i * 2 + 2 then x.cells[j - i * 2]? else (FC l)[j - 2]?:=by
 have ht:(FC (l.take i)).length=i * 2:=by rw [jB,yc,Nat.min_eq_left hi]
 have hx:=x.len;rw [DF,sH];split
 ·rw [yB (by omega),<- kJ,ym,if_pos (by omega)]
 ·split
  ·rw [yy (by omega),ht,yB (by omega)]
  ·rw [yy (by omega),ht,yy (by omega),hx,<- FF,yj];congr 1; omega
theorem gG.ins {w:World} {g off c:Nat} {l:List GF} {x:GF} {L:List Value} {i:Nat} {ty:TypeId} (hi:i<=l.length) (hL:off + c * 2<=L.length) (hc:∀ j,j<l.length * 2->L[off + j]?=(FC l)[j]?) (ua:l.length + 1<=c) (hg:w.heap[g]?=some (.cells (lay (lay L (off + (i + 1) * 2) (FC (l.drop i))) (off + i * 2) x.cells).toArray ty (0,0))) :
  gG w g off c L.length (l.take i++x :: l.drop i):=by
 have hx:=x.len;have hd:(FC (l.drop i)).length=(l.length - i) * 2:=by rw [jB,yg]
 have da:(l.take i++x :: l.drop i).length=l.length + 1:=by simp; omega
 have h1:off + (i + 1) * 2 + (FC (l.drop i)).length<=L.length:=by omega
 have ch:=iD h1;have h2:off + i * 2 + x.cells.length<=(lay L (off + (i + 1) * 2) (FC (l.drop i))).length:=by rw [ch,hx]; omega
 have ii:=iD h2;have:=gG.of_list hg (c:=c) (off:=off) (l:=l.take i++x :: l.drop i) (by rw [ii,ch]; exact hL) (fun j hj=>?_) (by omega)
 ·rwa [ii,ch] at this
 rw [da] at hj;rw [sW l x i j hi,aG _ _ _ _ h2,aG _ _ _ _ h1,hx,hd];by_cases c1:j<i * 2
 ·rw [if_pos c1,if_neg (by omega),if_neg (by omega)];exact hc j (by omega)
 ·rw [if_neg c1];by_cases c2:j<i * 2 + 2
  ·rw [if_pos c2,if_pos (by omega)];congr 1; omega
  ·rw [if_neg c2,if_neg (by omega),if_pos (by omega),<- FF,yj];congr 1; omega
theorem gG.ins2 {w:World} {g c:Nat} {l:List GF} {x:GF} {L:List Value} {i:Nat} {ty:TypeId} (hi:i<=l.length) (hL:c * 2<=L.length) (hc:∀ j,j<i * 2->L[j]?=(FC l)[j]?) (ua:l.length + 1<=c) (hg:w.heap[g]?=some (.cells (lay (lay L (i * 2) x.cells) ((i + 1) * 2) (FC (l.drop i))).toArray ty (0,0))) :
  gG w g 0 c L.length (l.take i++x :: l.drop i):=by
 have hx:=x.len;have hd:(FC (l.drop i)).length=(l.length - i) * 2:=by rw [jB,yg]
 have da:(l.take i++x :: l.drop i).length=l.length + 1:=by simp; omega
 have h1:i * 2 + x.cells.length<=L.length:=by omega
 have ch:=iD h1;have h2:(i + 1) * 2 + (FC (l.drop i)).length<=(lay L (i * 2) x.cells).length:=by rw [ch,hd]; omega
 have ii:=iD h2;have:=gG.of_list hg (c:=c) (off:=0) (l:=l.take i++x :: l.drop i) (by rw [ii,ch]; omega) (fun j hj=>?_) (by omega)
 ·rwa [ii,ch] at this
 rw [da] at hj;rw [yb,sW l x i j hi,aG _ _ _ _ h2,aG _ _ _ _ h1,hx,hd];by_cases c1:j<i * 2
 ·rw [if_pos c1,if_neg (by omega),if_neg (by omega)];exact hc j c1
 ·rw [if_neg c1];by_cases c2:j<i * 2 + 2
  ·rw [if_pos c2,if_neg (by omega),if_pos (by omega)]
  ·rw [if_neg c2,if_pos (by omega),<- FF,yj];congr 1; omega
end
section
open Go Go.RowKit
def syCut (g off N:Nat) (w:World) (l:List GF) (e:Ending) (w':World):Prop:=∃ c,e=.returned (.slice (some ⟨g,off,none⟩) l.length c)/\gG w' g off c N l/\WA (fun b=>b=g) w w'
set_option maxHeartbeats 400000 in
theorem R0 (g off c N:Nat) (l:List GF) (n i:Nat) (w:World) (hn:l.length=n) (hi:i<n) (da:n<=1000) (h:gG w g off c N l) :
  Calls Tryz.prog 73 #[.slice (some ⟨g,off,none⟩) n c,.int .i64 i,.int .i64 ((i:Int) + 1)] w (syCut g off N w (l.eraseIdx i)):=by
 have zd:n<=c:=by have:=h.len; omega
 have db:((i:Int) == (i:Int) + 1)=false:=by simp; omega
 obtain ⟨⟨cur,t0,hg,hN,rb,xq⟩,_⟩:=h.take (k:=i) (by omega);have nh:(l.take i).length=i:=by rw [yc]; omega
 have td:(l.drop (i + 1)).length=n - (i + 1):=by rw [yg,hn]
 have hd:=h.drop (k:=i + 1) (by omega);obtain ⟨to,tl⟩:∃ to:Nat,to=(if c=i + 1 then off else off + (i + 1) * 2):=⟨_,rfl⟩;rw [<- tl] at hd;have bt:(if c=i + 1 then some (⟨g,off,none⟩:Addr) else (some (⟨g,off,none⟩:Addr)).map (·.add ((i + 1) * 2)))=some ⟨g,to,none⟩:=by
  rw [tl]; split <;> simp [Addr.add_lit]
 have jf:=F9 (some ⟨g,off,none⟩) n c i (by omega);have ki:=ST (some ⟨g,off,none⟩) n c (i + 1) (by omega);rw [bt] at ki;simp only [Int.natCast_add,Int.cast_ofNat_Int] at ki;obtain ⟨inf,wc,kf,rd,af⟩:=info_parts G9;have hr:=fun ty=>zD (P:=Tryz.prog) w.drew 65 ty 50 inf 2 DX wc rd g off i c cur _ hg ⟨g,to,none⟩ (n - (i + 1)) (c - (i + 1)) (FC (l.drop (i + 1))) (by rw [jB,td]) (fun j u hu=>by rw [Addr.add_lit]; exact hd.cells j u hu) (kO _) (by omega) (by rw [jB,td]; omega)
 have hE:=gG.app (w:=w.drew) (c:=c) (off:=off) (l:=l.take i) (r:=l.drop (i + 1)) hg (by omega) xq (by rw [nh,td]; omega);rw [nh,hN] at hE;obtain ⟨w1,uh⟩:∃ w1,w1=w.drew.setRow g (cur.toList.take (off + i * 2)++FC (l.drop (i + 1))++cur.toList.drop (off + i * 2 + (FC (l.drop (i + 1))).length)).toArray:=⟨_,rfl⟩;have gd:WA (fun b=>b=g) w w1:=by rw [uh]; exact ((WA.refl (fun b=>b=g) w).drew).setRow (fun _=>rfl) _
 rw [<- uh] at hE;simp only [<- uh] at hr;clear uh tl hd hg hN rb xq bt;have HE:=aO hE;have HK:=aO gd;have HT:=aO nh;have HD:=aO td;have HN:=aO hn;clear h hE gd nh td hn
 go_enter Tryz.func73,Tryz.ntmps73
 go_wp2_with fail
 go_region_held3 (fun _=>True) (trivial) (refine CL rfl _ _ _ _ rfl _ _ rfl rfl (hr _) ?_)
 have gd:i + (n - (i + 1)) + 1=n:=by omega
 have ff:(l.take i++l.drop (i + 1)).length=i + (n - (i + 1)):=by rw [y9,HT.out,HD.out]
 have ib:l.eraseIdx i=l.take i++l.drop (i + 1):=List.eraseIdx_eq_take_drop_succ l i;generalize i + (n - (i + 1))=k at *
 generalize l.take i++l.drop (i + 1)=l' at *
 subst ff;have cj:=sylh (some ⟨g,off,none⟩) l'.length c l'.length n (by omega) (by omega);rw [if_neg (by omega),yd,Addr.add_lit] at cj;obtain ⟨w2,iw,ls,um⟩:=HE.out.clear 0 (n - l'.length) (c - l'.length) (by omega);have HO2:=aO ls;have HEL:=aO ib;clear ls ib jf ki hr HE HT HD HN
 go_wp2_with fail
 go_ret
 rw [HEL.out];exact ⟨c,rfl,HO2.out,HK.out.trans um (fun _ _ h=>h)⟩
end
section
open Go Go.RowKit
def dW (w:World) (v:Value) (l:List GF) (e:Ending) (w':World):Prop:=∃ g c N,e=.returned (.slice (some ⟨g,0,none⟩) l.length c)/\gG w' g 0 c N l/\WA (fun b=>FH v=some b) w w'/\(w.heap.size<=g\/FH v=some g/\∃ cur ty,w.heap[g]?=some (.cells cur ty (0,0))/\cur.size=N)
def WI (w:World) (vb vo:Nat) (x:GF):Prop:=∀ (j:Nat) (u:Value),x.cells[j]?=some u->w.cell? ⟨vb,vo + j,none⟩=some u
theorem WI.congr {w w':World} {vb vo:Nat} {x:GF} (h:WI w vb vo x) (he:w'.heap[vb]?=w.heap[vb]?):WI w' vb vo x:=fun j u hu=>by
 have:=h j u hu;unfold World.cell? at this ⊢;simp only [he];exact this
theorem WI.first {w:World} {vb vo:Nat} {x:GF} (h:WI w vb vo x):∃ u,w.cell? ⟨vb,vo,none⟩=some u:=by
 have hl:=x.len;obtain ⟨u,hu⟩:∃ u,x.cells[0]?=some u:=⟨_,yn (by omega)⟩;exact ⟨u,h 0 u hu⟩
theorem WI.lt {w:World} {vb vo:Nat} {x:GF} (h:WI w vb vo x):vb<w.heap.size:=by
 obtain ⟨u,hu⟩:=h.first;obtain ⟨c,ty,fz,hc,_⟩:=jH hu;exact uA hc
theorem A9 (w:World) (ty:TypeId) (v:Value) (l:List GF) (x:GF) (vb vo mc:Nat) (h:syO w v l) (hx:WI w vb vo x) (da:l.length<=900) :
  ∃ v' w',(Builtin.append_ #[65,65] ty #[v,.slice (some ⟨vb,vo,none⟩) 1 mc]).run Tryz.prog w=.ok v' w'/\dW w v (l++[x]) (.returned v') w':=by
 obtain ⟨inf,wc,kf,rd,af⟩:=info_parts G9;have fb:∀ j u,(FC [x])[j]?=some u->w.cell? ((⟨vb,vo,none⟩:Addr).add j)=some u:=fun j u hu=>by
  rw [Addr.add_lit];exact hx j u (by simpa [FC] using hu)
 rcases h with ⟨rfl,rfl⟩ | ⟨g,c,N,rfl,hE⟩
 ·obtain ⟨cap,ia,g1,g2,g3,g4,hr⟩:=FB (P:=Tryz.prog) w 65 ty 50 inf _ 2 24 DX wc kf rd af rfl none 0 0 [] rfl (fun h0=>absurd h0 (by omega)) (fun _=>⟨rfl,rfl⟩) ⟨vb,vo,none⟩ 1 mc (FC [x]) (jB _) fb (by omega) (y6 _) (by omega) (by omega);refine ⟨_,_,hr,w.heap.size,cap,ia.size,rfl,⟨⟨ia,_,heap_alloc_new w.drew _,rfl,by omega,?_⟩,g1⟩,WA.of_below (xJ ((Below.refl _ _).alloc (y6 _) _)) _,.inl (y6 _)⟩;rw [yC];exact g4
 ·have hc:=hE.len;by_cases ua:l.length + 1<=c
  ·obtain ⟨⟨cur,t0,h1,hN,h2,h3⟩,h4⟩:=hE;have hr:=zD (P:=Tryz.prog) w 65 ty 50 inf 2 DX wc rd g 0 l.length c cur _ h1 ⟨vb,vo,none⟩ 1 mc (FC [x]) (jB _) fb (kO _) ua (by rw [jB]; simp; omega);have hE:=gG.app (c:=c) (off:=0) (l:=l) (r:=[x]) h1 (by omega) h3 ua;rw [hN] at hE;exact ⟨_,_,hr,g,c,N,by rw [y9]; rfl,hE,(WA.refl (fun b=>FH (.slice (some ⟨g,0,none⟩) l.length c)=some b) w).setRow (fun _=>rfl) _,.inr ⟨rfl,cur,t0,h1,hN⟩⟩
  ·obtain ⟨cap,ia,g1,g2,g3,g4,hr⟩:=FB (P:=Tryz.prog) w 65 ty 50 inf _ 2 24 DX wc kf rd af rfl (some ⟨g,0,none⟩) l.length c (FC l) (jB l) (fun h0=>⟨_,rfl,fun j u hu=>by rw [Addr.add_lit]; exact hE.cells j u hu⟩) (fun hA=>nomatch hA) ⟨vb,vo,none⟩ 1 mc (FC [x]) (jB _) fb (by omega) hc (by omega) (by omega);refine ⟨_,_,hr,w.heap.size,cap,ia.size,by rw [y9]; rfl,⟨⟨ia,_,heap_alloc_new w.drew _,rfl,by omega,?_⟩,by rw [y9]; exact g1⟩,WA.of_below (xJ ((Below.refl _ _).alloc (y6 _) _)) _,.inl (y6 _)⟩;rw [yC,y9,DF];exact g4
theorem syO.shape {w:World} {v:Value} {l:List GF} (h:syO w v l):∃ A c,v=.slice A l.length c/\l.length<=c/\(A=none->c=0):=by
 rcases h with ⟨rfl,rfl⟩ | ⟨g,c,N,rfl,h⟩
 ·exact ⟨none,0,rfl,y6 _,fun _=>rfl⟩
 ·exact ⟨_,c,rfl,h.len,fun h=>by cases h⟩
set_option maxHeartbeats 1000000 in
theorem T0 (A:Option Addr) (n c vb vo mc:Nat) (w:World) (hc:n<=c) (da:n<=900) {v':Value} {w':World} (hr:(Builtin.append_ #[65,65] 65 #[.slice A n c,.slice (some ⟨vb,vo,none⟩) 1 mc]).run Tryz.prog w=.ok v' w') :
  Calls Tryz.prog 72 #[.slice A n c,.int .i64 n,.slice (some ⟨vb,vo,none⟩) 1 mc] w fun e w2=>e=.returned v'/\w2=w':=by
 have jf:=ST A n c n (y6 _);generalize io:(if c=n then A else A.map (·.add (n * 2)))=A1 at jf;clear io
 go_enter Tryz.func72,Tryz.ntmps72
 go_wp2_with (at_builtin; refine OD _ rfl _ _ _ _ rfl _ _ rfl rfl hr ?_)
 go_ret
 exact ⟨rfl,rfl⟩
theorem syend (v:Value) (l:List GF) (x:GF) (n vb vo mc:Nat) (w:World) (hn:l.length=n) (h:syO w v l) (hx:WI w vb vo x) (da:n<=900) :
  Calls Tryz.prog 72 #[v,.int .i64 n,.slice (some ⟨vb,vo,none⟩) 1 mc] w (dW w v (l++[x])):=by
 obtain ⟨v',w',hr,h1⟩:=A9 w 65 v l x vb vo mc h hx (by omega);obtain ⟨A,c,hv,hc,pg⟩:=h.shape;rw [hn] at hv hc;subst hv;refine (T0 A n c vb vo mc w hc da hr).mono ?_;rintro e w2 ⟨rfl,rfl⟩;exact h1
theorem S9 (A:Option Addr) (x:GF) (vb vo mc:Nat) (w:World) (hx:WI w vb vo x) :
  Calls Tryz.prog 72 #[.slice A 0 0,.int .i64 0,.slice (some ⟨vb,vo,none⟩) 1 mc] w fun e w'=>∃ g c N,e=.returned (.slice (some ⟨g,0,none⟩) 1 c)/\gG w' g 0 c N [x]/\WA (fun _=>False) w w'/\w.heap.size<=g:=by
 obtain ⟨inf,wc,kf,rd,af⟩:=info_parts G9;have fb:∀ j u,(FC [x])[j]?=some u->w.cell? ((⟨vb,vo,none⟩:Addr).add j)=some u:=fun j u hu=>by
  rw [Addr.add_lit];exact hx j u (by simpa [FC] using hu)
 obtain ⟨cap,ia,g1,g2,g3,g4,hr⟩:=FB (P:=Tryz.prog) w 65 65 50 inf _ 2 24 DX wc kf rd af rfl A 0 0 [] rfl (fun h0=>absurd h0 (by omega)) (fun _=>⟨rfl,rfl⟩) ⟨vb,vo,none⟩ 1 mc (FC [x]) (jB _) fb (by omega) (y6 _) (by omega) (by omega);refine (T0 A 0 0 vb vo mc w (y6 _) (by omega) hr).mono ?_;rintro e w2 ⟨rfl,rfl⟩;refine ⟨w.heap.size,cap,ia.size,rfl,⟨⟨ia,_,heap_alloc_new w.drew _,rfl,by omega,?_⟩,g1⟩,WA.of_below (xJ ((Below.refl _ _).alloc (y6 _) _)) _,y6 _⟩;rw [yC];exact g4
set_option maxHeartbeats 1000000 in
theorem H6 (g c N vb vo mc:Nat) (l:List GF) (x:GF) (n i:Nat) (w:World) (hn:l.length=n) (hi:i<n) (da:n<=1000) (h:gG w g 0 c N l) (ua:n + 1<=c) (hx:WI w vb vo x) (db:vb≠g) :
  Calls Tryz.prog 72 #[.slice (some ⟨g,0,none⟩) n c,.int .i64 i,.slice (some ⟨vb,vo,none⟩) 1 mc] w fun e w'=>e=.returned (.slice (some ⟨g,0,none⟩) (n + 1) c)/\gG w' g 0 c N (l.take i++x :: l.drop i)/\WA (fun b=>b=g) w w':=by
 have so:=h.lt;have zg:=h.drop (k:=i) (by omega);obtain ⟨L,t0,ri,sq,mo,rq⟩:=h.list;obtain ⟨u0,ot⟩:=hx.first;have wx:∀ lb cb,(callFunc 111 #[.slice (some ⟨vb,vo,none⟩) 1 mc,.slice (some ⟨g,(i + 1) * 2,none⟩) lb cb]).run Tryz.prog w=.ok (.value (.bool false)) w:=fun lb cb=>by
  rw [run_callFunc_extern (P:=Tryz.prog) (e:=Extern.SlicesOverlaps.overlaps #[65,65] #[4]) Tryz.func111 (by kernel_rfl) (by kernel_rfl) (by kernel_rfl) (by kernel_rfl),
   dJ w 65 4 50 DX 2 sysiz ⟨vb,vo,none⟩ ⟨g,(i + 1) * 2,none⟩ 1 mc lb cb db u0 ot L.toArray t0 ri (by rw [yu]; omega)]
  rfl
 have af:¬ ((i:Int)=(n:Int)):=by omega
 have mixed:Tryz.prog.follows .mixedOrders=true:=by kernel_rfl
 have td:(l.drop i).length=n - i:=by rw [yg,hn]
 have uh:IntKind.i64.wrap ((i:Int) + 1)=(i:Int) + 1:=IntWalk.i64_in _ (by omega);have my:IntKind.i64.wrap ((n:Int) + 1)=(n:Int) + 1:=IntWalk.i64_in _ (by omega);have hA:∀ k,k<c->(if c=k then some (⟨g,0,none⟩:Addr) else (some (⟨g,0,none⟩:Addr)).map (·.add (k * 2)))=some ⟨g,k * 2,none⟩:=fun k hk=>by rw [if_neg (by omega)]; simp [Addr.add_lit]
 have jf:=ST (some ⟨g,0,none⟩) n c i (by omega);have ki:=F9 (some ⟨g,0,none⟩) n c (n + 1) (by omega);have cj:=ST (some ⟨g,0,none⟩) (n + 1) c (i + 1) (by omega);have tp:=ST (some ⟨g,0,none⟩) (n + 1) c i (by omega);rw [hA i (by omega)] at jf tp;rw [hA (i + 1) (by omega)] at cj;rw [Nat.add_sub_add_right] at cj;simp only [Int.natCast_add,Int.cast_ofNat_Int] at ki cj;have me:∀ ty dc sc,(Builtin.copy_ #[65,65] ty #[.slice (some ⟨g,(i + 1) * 2,none⟩) (n - i) dc,.slice (some ⟨g,i * 2,none⟩) (n + 1 - i) sc]).run Tryz.prog w.drew=.ok (goInt (Nat.min (n + 1 - i) (n - i):Nat)) (w.drew.setRow g (lay L ((i + 1) * 2) (FC (l.drop i))).toArray):=fun ty dc sc =>
  gR w.drew ty t0 g ((i + 1) * 2) (n - i) dc ⟨g,i * 2,none⟩ (n + 1 - i) sc L (FC (l.drop i)) ri (by rw [jB,td]; congr 1; simp only [Nat.min_def]; split <;> omega)
   (fun j v hj=>by
    have:=h.cells (i * 2 + j) v (by rw [<- FF,yj] at hj; exact hj);rw [Addr.add_lit]
    rwa [yb] at this) (by rw [jB,td]; omega) (kO _)
 have oh:=x.len;have h1l:(i + 1) * 2 + (FC (l.drop i)).length<=L.length:=by rw [jB,td]; omega
 obtain ⟨L1,tc⟩:∃ L1,L1=lay L ((i + 1) * 2) (FC (l.drop i)):=⟨_,rfl⟩;have ko:L1.length=L.length:=by rw [tc]; exact iD h1l
 rw [<- tc] at me;obtain ⟨W1,zf⟩:∃ W1,W1=w.drew.setRow g L1.toArray:=⟨_,rfl⟩;have od:W1.heap[g]?=some (.cells L1.toArray t0 (0,0)):=by rw [zf]; exact setRow_heap w.drew g _ _ _ _ ri
 have mj:WI W1 vb vo x:=hx.congr (by rw [zf,setRow_other _ _ _ _ db]; rfl);have gd:WA (fun b=>b=g) w W1:=by rw [zf]; exact ((WA.refl (fun b=>b=g) w).drew).setRow (fun _=>rfl) _
 have rg:∀ ty dc,(Builtin.copy_ #[65,65] ty #[.slice (some ⟨g,i * 2,none⟩) (n + 1 - i) dc,.slice (some ⟨vb,vo,none⟩) 1 mc]).run Tryz.prog W1=.ok (goInt (Nat.min 1 (n + 1 - i):Nat)) (W1.setRow g (lay L1 (i * 2) x.cells).toArray):=fun ty dc =>
  gR W1 ty t0 g (i * 2) (n + 1 - i) dc ⟨vb,vo,none⟩ 1 mc L1 x.cells od (by rw [oh]; simp only [Nat.min_def]; split <;> omega) (fun j v hj=>by rw [Addr.add_lit]; exact mj j v hj) (by omega) x.one
 rw [<- zf] at me;have hE:gG (W1.setRow g (lay L1 (i * 2) x.cells).toArray) g 0 c L.length (l.take i++x :: l.drop i):=gG.ins (c:=c) (off:=0) (l:=l) (i:=i) (L:=L) (by omega) mo rq (by omega) (by rw [yb,yb,<- tc]; exact setRow_heap W1 g _ _ _ _ od);rw [sq] at hE;have HE:=aO hE;have HK:=aO gd;clear hE gd h ri mo rq sq od mj zf tc hx zg ot
 go_enter Tryz.func72,Tryz.ntmps72
 go_wp2_with (simp only [wx])
 go_region_law_o (refine oE rfl _ _ 65 65 rfl _ _ (by simp [Act.eval,Act.put]) (by simp [Act.eval,Act.put]) (me _ _ _) ?_)
 go_wp2_with (at_builtin; refine aD _ rfl _ _ 65 65 rfl _ _ rfl rfl (rg _ _) ?_)
 go_ret
 exact ⟨rfl,HE.out,HK.out.setRow (fun _=>rfl) _⟩
theorem syu3:Tryz.prog.underlying 3=some (.int .i64):=by kernel_rfl
set_option maxHeartbeats 1000000 in
theorem D9 (g c N vb vo mc:Nat) (l:List GF) (x:GF) (n i:Nat) (w:World) (hn:l.length=n) (hi:i<n) (da:n<=900) (h:gG w g 0 c N l) (ua:¬ n + 1<=c) (hx:WI w vb vo x) :
  Calls Tryz.prog 72 #[.slice (some ⟨g,0,none⟩) n c,.int .i64 i,.slice (some ⟨vb,vo,none⟩) 1 mc] w (dW w (.slice (some ⟨g,0,none⟩) n c) (l.take i++x :: l.drop i)):=by
 have zd:n<=c:=by have:=h.len; omega
 have so:=h.lt;have ly:=hx.lt;obtain ⟨inf,wc,kf,rd,af⟩:=info_parts G9;have uy:¬ ((i:Int)=(n:Int)):=by omega
 have mixed:Tryz.prog.follows .mixedOrders=true:=by kernel_rfl
 have td:(l.drop i).length=n - i:=by rw [yg,hn]
 have nh:(l.take i).length=i:=by rw [yc]; omega
 have uh:IntKind.i64.wrap ((i:Int) + 1)=(i:Int) + 1:=IntWalk.i64_in _ (by omega);have my:IntKind.i64.wrap ((n:Int) + 1)=(n:Int) + 1:=IntWalk.i64_in _ (by omega);have hw3:IntKind.i64.wrap ((n:Int) + 1 - (i:Int))=((n + 1 - i:Nat):Int):=by rw [IntWalk.i64_in _ (by omega)]; omega
 have jf:=ST (some ⟨g,0,none⟩) n c i (by omega);rw [if_neg (by omega),yd,Addr.add_lit,yb] at jf;have ki:=F9 (some ⟨g,0,none⟩) n c i (by omega);have zg:=h.take (k:=i) (by omega);have br:=run_firstCells_some (P:=Tryz.prog) w.drew inf.size i ⟨g,0,none⟩ i c (FC (l.take i)) (by rw [jB,nh,rd]) (fun j u hu=>by rw [Addr.add_lit]; exact zg.cells j u hu);have co:Builtin.nextslicecap (i + (n + 1 - i)) c * inf.bytes<=281474976710656:=by
  have h1:Builtin.nextslicecap (i + (n + 1 - i)) c<=2 * (i + (n + 1 - i)):=nextslicecap_le (by omega);rw [af];omega
 have tj:=fun ty=>Lib.run_append_grow_zeros (P:=Tryz.prog) w 65 3 ty 50 inf _ .i64 .i64 DX syu3 wc kf (some ⟨g,0,none⟩) i c (FC (l.take i)) br (n + 1 - i) (by omega) (by omega) (by omega) (by omega) (by rw [af]; omega) co
 have e1:i + (n + 1 - i)=n + 1:=by omega
 rw [e1] at tj co;have cw:=grownCap_ge w (n + 1) c 50;have ml:=grownCap_le_maxLen w (n + 1) c 50 (by have:maxLen=9223372036854775807:=rfl; omega);generalize grownCap w (n + 1) c 50=cap at tj cw ml;obtain ⟨L,hL⟩:∃ L:List Value,((FC (l.take i)).toArray++Builtin.zeroCells z7.cells (n + 1 - i)++Builtin.zeroCells z7.cells (cap - (n + 1)))=L.toArray:=⟨_,rfl⟩;have hLl:L.length=cap * 2:=by
  have:=congrArg Array.size hL;simp only [Array.size_append,size_zeroCells,yu,jB,nh] at this;have h5:z7.cells.size=2:=rfl;rw [h5] at this;omega
 have tq:∀ j,j<i * 2->L[j]?=(FC l)[j]?:=fun j hj=>by
  have h1:L[j]?=(L.toArray)[j]?:=by simp
  rw [h1,<- hL,Array.append_assoc,Array.getElem?_append_left (by simp [jB,nh]; omega)];simp only [List.getElem?_toArray];rw [<- kJ,ym,if_pos hj]
 rw [hL] at tj;clear hL;have oh:=x.len;have xp:∀ k,k<cap->∀ W,(Instr.slice 65 (.slice (some ⟨w.heap.size,0,none⟩) (n + 1) cap) (some (.int .i64 (k:Int))) none none).run Tryz.prog W=(if k<=n + 1 then .ok (.slice (some ⟨w.heap.size,k * 2,none⟩) (n + 1 - k) (cap - k)) W else (Instr.slice 65 (.slice (some ⟨w.heap.size,0,none⟩) (n + 1) cap) (some (.int .i64 (k:Int))) none none).run Tryz.prog W):=fun k hk W=>by
  split
  ·rename_i h;have:=ST (some ⟨w.heap.size,0,none⟩) (n + 1) cap k h W;rw [if_neg (by omega),yd,Addr.add_lit,yb] at this;exact this
  ·rfl
 have cj:=fun W=>(xp i (by omega) W).trans (by rw [if_pos (by omega)])
 have tp:=fun W=>(xp (i + 1) (by omega) W).trans (by rw [if_pos (by omega)])
 simp only [Nat.add_sub_add_right,Int.natCast_add,Int.cast_ofNat_Int] at tp;clear xp;obtain ⟨W0,dm⟩:∃ W0,W0=w.drew.alloc (.cells L.toArray 50):=⟨_,rfl⟩;have wh:W0.heap[w.heap.size]?=some (.cells L.toArray 50 (0,0)):=by rw [dm]; exact heap_alloc_new w.drew _
 have zo:Below w.heap.size w W0:=by rw [dm]; exact xJ ((Below.refl _ _).alloc (y6 _) _)
 rw [<- dm] at tj;have lj:WI W0 vb vo x:=hx.congr (zo.block vb ly);have me:∀ ty dc,(Builtin.copy_ #[65,65] ty #[.slice (some ⟨w.heap.size,i * 2,none⟩) (n + 1 - i) dc,.slice (some ⟨vb,vo,none⟩) 1 mc]).run Tryz.prog W0=.ok (goInt (Nat.min 1 (n + 1 - i):Nat)) (W0.setRow w.heap.size (lay L (i * 2) x.cells).toArray):=fun ty dc =>
  gR W0 ty _ w.heap.size (i * 2) (n + 1 - i) dc ⟨vb,vo,none⟩ 1 mc L x.cells wh (by rw [oh]; simp only [Nat.min_def]; split <;> omega) (fun j v hj=>by rw [Addr.add_lit]; exact lj j v hj) (by omega) x.one
 have h1l:i * 2 + x.cells.length<=L.length:=by omega
 obtain ⟨L1,tc⟩:∃ L1,L1=lay L (i * 2) x.cells:=⟨_,rfl⟩;have ko:L1.length=L.length:=by rw [tc]; exact iD h1l
 obtain ⟨W1,zf⟩:∃ W1,W1=W0.setRow w.heap.size L1.toArray:=⟨_,rfl⟩;rw [<- tc,<- zf] at me;have od:W1.heap[w.heap.size]?=some (.cells L1.toArray 50 (0,0)):=by rw [zf]; exact setRow_heap W0 w.heap.size _ _ _ _ wh
 have gd:Below w.heap.size w W1:=by rw [zf]; exact zo.trans ⟨rfl,rfl,rfl,by simp,fun k hk=>setRow_other W0 w.heap.size k _ (by omega)⟩
 have jo:=(h.drop (k:=i) (by omega)).keep (WA.of_below gd (fun _=>False)) (fun h=>h);rw [if_neg (by omega),yb] at jo;have rg:∀ ty dc sc,(Builtin.copy_ #[65,65] ty #[.slice (some ⟨w.heap.size,(i + 1) * 2,none⟩) (n - i) dc,.slice (some ⟨g,i * 2,none⟩) (n - i) sc]).run Tryz.prog W1.drew=.ok (goInt (Nat.min (n - i) (n - i):Nat)) (W1.drew.setRow w.heap.size (lay L1 ((i + 1) * 2) (FC (l.drop i))).toArray):=fun ty dc sc =>
  gR W1.drew ty _ w.heap.size ((i + 1) * 2) (n - i) dc ⟨g,i * 2,none⟩ (n - i) sc L1 (FC (l.drop i)) od (by rw [jB,td]; congr 1; simp only [Nat.min_def]; split <;> omega)
   (fun j v hj=>by rw [Addr.add_lit]; exact jo.cells j v hj) (by rw [jB,td]; omega) (kO _)
 obtain ⟨W2,am⟩:∃ W2,W2=W1.drew.setRow w.heap.size (lay L1 ((i + 1) * 2) (FC (l.drop i))).toArray:=⟨_,rfl⟩;have hE:gG W2 w.heap.size 0 cap L.length (l.take i++x :: l.drop i):=gG.ins2 (c:=cap) (l:=l) (i:=i) (L:=L) (by omega) (by omega) tq (by omega) (by rw [am,<- tc]; exact setRow_heap W1.drew w.heap.size _ _ _ _ od);have um:Below w.heap.size w W2:=by rw [am]; exact gd.trans ⟨rfl,rfl,rfl,by simp,fun k hk=>setRow_other W1.drew w.heap.size k _ (by have:=gd.size; omega)⟩
 rw [<- am] at rg;have nc:(l.take i++x :: l.drop i).length=n + 1:=by simp; omega
 have HE:=aO hE;have HK:=aO um;have HL:=aO nc;clear hE um gd zo jo h zg br wh lj od dm zf am tc hx nc tq
 go_enter Tryz.func72,Tryz.ntmps72
 go_wp2_with (first | (at_builtin; refine OD _ rfl _ _ _ _ rfl _ _ rfl rfl (tj _) ?_) | (at_builtin; refine aD _ rfl _ _ 65 65 rfl _ _ rfl rfl (me _ _) ?_))
 go_region_law_o (refine oE rfl _ _ 65 65 rfl _ _ (by simp [Act.eval,Act.put]) (by simp [Act.eval,Act.put]) (rg _ _ _) ?_)
 go_wp2_with fail
 go_ret
 exact ⟨w.heap.size,cap,_,congrArg (fun k=>Ending.returned (Value.slice (some ⟨w.heap.size,0,none⟩) k cap)) HL.out.symm,HE.out,WA.of_below HK.out _,.inl (y6 _)⟩
theorem I0 (v:Value) (l:List GF) (x:GF) (i vb vo mc:Nat) (w:World) (hi:i<=l.length) (h:syO w v l) (hx:WI w vb vo x) (db:FH v≠some vb) (da:l.length<=900) :
  Calls Tryz.prog 72 #[v,.int .i64 i,.slice (some ⟨vb,vo,none⟩) 1 mc] w (dW w v (l.take i++x :: l.drop i)):=by
 by_cases hn:i=l.length
 ·have:=syend v l x l.length vb vo mc w rfl h hx da;rw [hn,List.take_length,List.drop_length];exact this
 ·rcases h with ⟨rfl,rfl⟩ | ⟨g,c,N,rfl,hE⟩
  ·exact absurd (Nat.le_zero.1 hi) hn
  ·by_cases ua:l.length + 1<=c
   ·obtain ⟨⟨cur,ty,h1,h2,_⟩,_⟩:=id hE;refine (H6 g c N vb vo mc l x l.length i w rfl (by omega) (by omega) hE ua hx (fun h=>db (by rw [h]; rfl))).mono ?_;rintro e w' ⟨rfl,h3,h4⟩;refine ⟨g,c,N,?_,h3,h4.mono fun i _ h=>by subst h; rfl,.inr ⟨rfl,cur,ty,h1,h2⟩⟩;congr 2;simp; omega
   ·exact D9 g c N vb vo mc l x l.length i w rfl (by omega) da hE ua hx
end
section
open Go Go.RowKit
theorem AT {av:Av} {w:World} {v0:Value} {g0:Nat->Prop} {E:List GF} {l:List (List AV)} {x:List AV} {xe:GF} {k vb vo c:Nat} (hk:k<=E.length) (hO:syO w v0 E) (xb:WI w vb vo xe) (zp:¬ av vb vo) (sb:IA av w x xe.cells) (hl:IA av w l.flatten (FC E)) (ib:UA 2 (x :: l)=true) (da:l.length=E.length) (h9:l.length<=900) (hb:∀ b,FH v0=some b->g0 b) (hg:∀ b,g0 b->∀ o,av b o) :
  Calls Tryz.prog 72 #[v0,.int .i64 k,.slice (some ⟨vb,vo,none⟩) 1 c] w fun e w'=>∃ v,e=.returned v/\SQ w g0 2 av w' (l.take k++x :: l.drop k) v/\WA g0 w w':=by
 rw [lB,y7,decide_eq_true_eq] at ib;refine (I0 v0 E xe k vb vo c w hk hO xb (fun h=>zp (hg vb (hb vb h) vo)) (by omega)).mono ?_;rintro e w' ⟨g,c',N,rfl,⟨⟨ia,ae,e1,e2,e3,e4⟩,e5⟩,hK,ad⟩;have ec:WA g0 w w':=hK.mono (fun i _ h=>hb i h);have nc:(l.take k++x :: l.drop k).length=(E.take k++xe :: E.drop k).length:=by simp [da]
 have hz:UA 2 (l.take k++x :: l.drop k)=true:=by rw [nD,lB,XD ib.2,xF ib.2,ib.1]; rfl
 have held:=MG ec hg (g:=g) (by rcases ad with h | ⟨h,_⟩; exact .inl h; exact .inr (hb g h));refine ⟨_,rfl,⟨g,c',ia,ae,by rw [nc],?_,e1,by rw [nc]; exact e5,by omega,?_⟩,ec⟩
 ·rcases ad with h | ⟨h,cur,ty,h1,h2⟩
  ·exact .inl h
  ·exact .inr ⟨hb g h,cur,ty,h1,by omega⟩
 ·rw [yC] at e4;rw [JC hz,nc,e4,List.flatten_append,yi,mF k ib.2,nF k ib.2,DF,sH,<- kJ,<- FF];exact IA.held held _ _ (EB (EG _ hl) (EB sb (QG _ hl)))
theorem PT {av:Av} {w:World} {g0:Nat->Prop} {E:List GF} {l:List (List AV)} {k g c N:Nat} (hk:k<E.length) (hO:gG w g 0 c N E) (hl:IA av w l.flatten (FC E)) (ib:UA 2 l=true) (da:l.length=E.length) (h9:l.length<=900) (hb:∀ b,g0 b ↔ b=g) (hg:∀ o,av g o) :
  Calls Tryz.prog 73 #[.slice (some ⟨g,0,none⟩) E.length c,.int .i64 k,.int .i64 ((k:Int) + 1)] w fun e w'=>∃ v,e=.returned v/\SQ w g0 2 av w' (l.take k++l.drop (k + 1)) v/\WA g0 w w':=by
 obtain ⟨⟨cur0,ul,c1,c2,_⟩,_⟩:=id hO;refine (R0 g 0 c N E E.length k w rfl hk (by omega) hO).mono ?_;rintro e w' ⟨c',rfl,⟨⟨ia,ae,e1,e2,e3,e4⟩,e5⟩,hK⟩;have ec:WA g0 w w':=hK.mono (fun i _ h=>(hb i).2 h);rw [List.eraseIdx_eq_take_drop_succ] at e4 e5 ⊢;have nc:(l.take k++l.drop (k + 1)).length=(E.take k++E.drop (k + 1)).length:=by simp [da]
 have hz:UA 2 (l.take k++l.drop (k + 1))=true:=by rw [nD,XD ib,xF ib]; rfl
 have held:=MG ec (fun b h o=>by rw [(hb b).1 h]; exact hg o) (g:=g) (.inr ((hb g).2 rfl));refine ⟨_,rfl,⟨g,c',ia,ae,by rw [nc],.inr ⟨(hb g).2 rfl,cur0,ul,c1,by omega⟩,e1,by rw [nc]; exact e5,by omega,?_⟩,ec⟩;rw [yC] at e4;rw [JC hz,nc,e4,List.flatten_append,mF k ib,nF (k + 1) ib,DF,<- kJ,<- FF];exact IA.held held _ _ (EB (EG _ hl) (QG _ hl))
theorem fW {av:Av} {w:World} {b:Bool} {l:List (List AV)} {v0:Value} {g0:Nat->Prop} (hg:PQ 2 av w b l v0 g0) (ib:UA 2 l=true) (h9:l.length<=900) :
  (l=[]/\(∃ A,v0=.slice A 0 0)/\∀ g,¬ g0 g)\/(b=false/\∃ (E:List GF) (g c N:Nat),E.length=l.length/\v0=.slice (some ⟨g,0,none⟩) E.length c/\(∀ b,g0 b ↔ b=g)/\(∀ o,av g o)/\IA av w l.flatten (FC E)/\gG w g 0 c N E):=by
 rcases hg with ⟨h1,h2,_,h3⟩ | ⟨hb,g,c,cur,ty,hv,h0,hh,hc,hz,ub,hr⟩
 ·exact .inl ⟨h1,h2,h3⟩
 ·have nc:=CB hr;have hf:=JC ib;obtain ⟨E,hE,hC⟩:=Q0 l.length (cur.toList.take l.flatten.length) (by rw [<- nc,hf]) (WG hr);refine .inr ⟨hb,E,g,c,cur.size,hE,by rw [hE]; exact hv,h0,ub,by rw [hC]; exact hr,⟨⟨cur,ty,hh,rfl,by omega,?_⟩,by rw [hE]; exact hc⟩⟩;rw [yC,hC,hE,hf]
theorem H9 {av:Av} {w:World} {g0:Nat->Prop} {x:List AV} {xe:GF} {vb vo c:Nat} (A:Option Addr) (xb:WI w vb vo xe) (sb:IA av w x xe.cells) (ib:UA 2 [x]=true) (hg:∀ b,¬ g0 b) :
  Calls Tryz.prog 72 #[.slice A 0 0,.int .i64 0,.slice (some ⟨vb,vo,none⟩) 1 c] w fun e w'=>∃ v,e=.returned v/\SQ w g0 2 av w' [x] v/\WA g0 w w':=by
 refine (S9 A xe vb vo c w xb).mono ?_;rintro e w' ⟨g,c',N,rfl,⟨⟨ia,ae,e1,e2,e3,e4⟩,e5⟩,hK,ad⟩;have ec:WA g0 w w':=hK.mono (fun i _ h=>h.elim);have held:=MG (av:=av) ec (fun b h=>absurd h (hg b)) (g:=g) (.inl ad);refine ⟨_,rfl,⟨g,c',ia,ae,rfl,.inl ad,e1,e5,by simp only [List.length_singleton] at e3 e5 ⊢; omega,?_⟩,ec⟩;rw [yC] at e4;rw [JC ib];have kv:ia.toList.take ([x].length * 2)=FC [xe]:=e4;rw [kv,List.flatten_singleton];have nj:FC [xe]=xe.cells:=by simp [FC]
 rw [nj];exact IA.held held _ _ sb
theorem U0 {O:OB} {b:Bool} {l:List (List AV)} {x:List AV} {i:Int} (h0:0<=i) (h1:i<=l.length) (h9:l.length<=900) (ib:UA 2 (x :: l)=true) :
  EA Tryz.prog O 72 [.undef,.sl b l,.int .i64 i,.sl false [x]] (some (.int .i64 2)) (.sl false (l.take i.toNat++x :: l.drop i.toNat),none):=by
 unfold EA;refine (?_:eD _ _ _ _ _ _);refine ⟨enters_of Tryz.func72 (by kernel_rfl) rfl,?_⟩;intro av w v0 vs g0 ub ka hg;simp only [jC] at ka;obtain ⟨u1,bv,rfl,li,u2,aq,rfl,ug,rfl⟩:=ka;rw [cA] at li;subst li;rw [rB] at ug;simp only [xB] at ug;obtain ⟨A,c,rfl,hc,_,_,hs⟩:=ug;obtain ⟨vb,vo,rfl,ja⟩:=(hs trivial).2 (by simp);rw [bB] at ja;simp only [yi,List.flatten_nil,List.append_nil] at ja;obtain ⟨xs,sb,oh⟩:=KD ja;have zh:=ib;rw [lB,y7,decide_eq_true_eq] at zh;have eu:xs.length=2:=by rw [<- CB sb]; exact zh.1
 have xb:WI w vb vo ⟨xs,eu,WG sb⟩:=fun j u hu=>(oh j u hu).1
 have zp:¬ av vb vo:=by
  have:=(oh 0 _ (yn (by omega))).2
  rwa [Nat.add_zero] at this
 have hi:i=(i.toNat:Int):=by omega
 rcases fW hg zh.2 h9 with ⟨rfl,⟨A0,rfl⟩,fj⟩ | ⟨rfl,E,g,cg,N,hE,rfl,fj,di,hr,hB⟩
 ·have wo:i=0:=by simp at h1; omega
  subst wo;exact H9 A0 xb sb ib fj
 ·have:=AT (v0:=.slice (some ⟨g,0,none⟩) E.length cg) (g0:=g0) (E:=E) (k:=i.toNat) (c:=c) (by omega) (.inr ⟨g,cg,N,rfl,hB⟩) xb zp sb hr ib hE.symm h9 (fun b h=>by simp [FH] at h; exact (fj b).2 h.symm) (fun b h o=>by rw [(fj b).1 h]; exact di o);rw [<- hi] at this;exact this
theorem E0 {O:OB} {l:List (List AV)} {i:Int} (h0:0<=i) (h1:i + 1<=l.length) (h9:l.length<=900) (ib:UA 2 l=true) :
  EA Tryz.prog O 73 [.undef,.sl false l,.int .i64 i,.int .i64 (i + 1)] (some (.int .i64 2)) (.sl false (l.take i.toNat++l.drop (i + 1).toNat),none):=by
 unfold EA;refine (?_:eD _ _ _ _ _ _);refine ⟨enters_of Tryz.func73 (by kernel_rfl) rfl,?_⟩;intro av w v0 vs g0 ub ka hg;simp only [jC] at ka;obtain ⟨u1,bv,rfl,li,u2,aq,rfl,ug,rfl⟩:=ka;rw [cA] at li ug;subst li;subst ug;have hi:i=(i.toNat:Int):=by omega
 rcases fW hg ib h9 with ⟨rfl,_⟩ | ⟨_,E,g,cg,N,hE,rfl,fj,di,hr,hB⟩
 ·simp at h1; omega
 ·have:=PT (k:=i.toNat) (by omega) hB hr ib hE.symm h9 fj di;rw [<- hi] at this;rw [show (i + 1).toNat=i.toNat + 1 from by omega];exact this
end
section
open Go Go.Shelf Go.RowKit
def MR:Go.Shelf.Ren:=⟨fun | 171=>50 | 243=>89 | 246=>90 | 283=>132 | 284=>133 | 285=>134 | 286=>135 | 129=>171 | 317=>170 | 318=>172 | 319=>173 | 320=>174 | 337=>188 | 338=>189 | n=>n,fun | 3=>3 | 9=>9 | 2=>2 | 4=>4 | 171=>178 | 0=>0 | 53=>179 | 37=>133 | 5=>5 | 173=>182 | 212=>204 | 51=>205 | 20=>20 | 213=>206 | 46=>207 | 232=>227 | 233=>228 | n=>n,fun | 17=>0 | 18=>2 | 19=>3 | n=>n⟩
theorem C5:Lays.n171 Tryz.prog MR where
 mixed:=by kernel_rfl
 f129:=Tryz.func171.trans (congrArg some (by kernel_rfl))
 f171:=Tryz.func50.trans (congrArg some (by kernel_rfl))
 f243:=Tryz.func89.trans (congrArg some (by kernel_rfl))
 f246:=Tryz.func90.trans (congrArg some (by kernel_rfl))
 f283:=Tryz.func132.trans (congrArg some (by kernel_rfl))
 f284:=Tryz.func133.trans (congrArg some (by kernel_rfl))
 f285:=Tryz.func134.trans (congrArg some (by kernel_rfl))
 f286:=Tryz.func135.trans (congrArg some (by kernel_rfl))
 f317:=Tryz.func170.trans (congrArg some (by kernel_rfl))
 f318:=Tryz.func172.trans (congrArg some (by kernel_rfl))
 f319:=Tryz.func173.trans (congrArg some (by kernel_rfl))
 f320:=Tryz.func174.trans (congrArg some (by kernel_rfl))
 f337:=Tryz.func188.trans (congrArg some (by kernel_rfl))
 f338:=Tryz.func189.trans (congrArg some (by kernel_rfl))
 t0:=Tryz.underlying0
 a0:=Tryz.isAgg0
 z0:=Tryz.sizeOf0
 v0:=Tryz.zeroValue0
 t2:=Tryz.underlying2
 a2:=Tryz.isAgg2
 z2:=Tryz.sizeOf2
 v2:=Tryz.zeroValue2
 t3:=Tryz.underlying3
 a3:=Tryz.isAgg3
 z3:=Tryz.sizeOf3
 v3:=Tryz.zeroValue3
 t4:=Tryz.underlying4
 a4:=Tryz.isAgg4
 z4:=Tryz.sizeOf4
 v4:=Tryz.zeroValue4
 t5:=Tryz.underlying5
 a5:=Tryz.isAgg5
 z5:=Tryz.sizeOf5
 v5:=Tryz.zeroValue5
 t9:=Tryz.underlying9
 a9:=Tryz.isAgg9
 z9:=Tryz.sizeOf9
 v9:=Tryz.zeroValue9
 t20:=Tryz.underlying20
 a20:=Tryz.isAgg20
 z20:=Tryz.sizeOf20
 v20:=Tryz.zeroValue20
 t37:=Tryz.underlying133
 a37:=Tryz.isAgg133
 z37:=Tryz.sizeOf133
 v37:=Tryz.zeroValue133
 t46:=Tryz.underlying207
 a46:=Tryz.isAgg207
 z46:=Tryz.sizeOf207
 v46:=Tryz.zeroValue207
 t51:=Tryz.underlying205
 a51:=Tryz.isAgg205
 z51:=Tryz.sizeOf205
 v51:=Tryz.zeroValue205
 t53:=Tryz.underlying179
 a53:=Tryz.isAgg179
 z53:=Tryz.sizeOf179
 v53:=Tryz.zeroValue179
 t171:=Tryz.underlying178
 a171:=Tryz.isAgg178
 z171:=Tryz.sizeOf178
 v171:=Tryz.zeroValue178
 t173:=Tryz.underlying182
 a173:=Tryz.isAgg182
 z173:=Tryz.sizeOf182
 v173:=Tryz.zeroValue182
 t212:=Tryz.underlying204
 a212:=Tryz.isAgg204
 z212:=Tryz.sizeOf204
 v212:=Tryz.zeroValue204
 t213:=Tryz.underlying206
 a213:=Tryz.isAgg206
 z213:=Tryz.sizeOf206
 t232:=Tryz.underlying227
 a232:=Tryz.isAgg227
 z232:=Tryz.sizeOf227
 v232:=Tryz.zeroValue227
 t233:=Tryz.underlying228
 a233:=Tryz.isAgg228
 z233:=Tryz.sizeOf228
 v233:=Tryz.zeroValue228
 g17:=by kernel_rfl
 g18:=by kernel_rfl
 g19:=by kernel_rfl
def QN:Go.Shelf.Ren:=⟨fun | 156=>54 | 165=>92 | 166=>93 | 169=>94 | 240=>136 | 241=>137 | 276=>175 | 277=>176 | n=>n,fun | 31=>92 | 9=>9 | 3=>3 | 4=>4 | 0=>0 | 20=>20 | 72=>135 | 76=>139 | 70=>132 | 37=>133 | 75=>138 | 127=>184 | 164=>209 | 5=>5 | 80=>141 | n=>n,fun | n=>n⟩
theorem BV:Lays.n156 Tryz.prog QN where
 mixed:=by kernel_rfl
 f156:=Tryz.func54.trans (congrArg some (by kernel_rfl))
 f165:=Tryz.func92.trans (congrArg some (by kernel_rfl))
 f166:=Tryz.func93.trans (congrArg some (by kernel_rfl))
 f169:=Tryz.func94.trans (congrArg some (by kernel_rfl))
 f240:=Tryz.func136.trans (congrArg some (by kernel_rfl))
 f241:=Tryz.func137.trans (congrArg some (by kernel_rfl))
 f276:=Tryz.func175.trans (congrArg some (by kernel_rfl))
 f277:=Tryz.func176.trans (congrArg some (by kernel_rfl))
 t0:=Tryz.underlying0
 a0:=Tryz.isAgg0
 z0:=Tryz.sizeOf0
 v0:=Tryz.zeroValue0
 t3:=Tryz.underlying3
 a3:=Tryz.isAgg3
 z3:=Tryz.sizeOf3
 v3:=Tryz.zeroValue3
 t4:=Tryz.underlying4
 a4:=Tryz.isAgg4
 z4:=Tryz.sizeOf4
 v4:=Tryz.zeroValue4
 t9:=Tryz.underlying9
 a9:=Tryz.isAgg9
 z9:=Tryz.sizeOf9
 v9:=Tryz.zeroValue9
 t20:=Tryz.underlying20
 a20:=Tryz.isAgg20
 z20:=Tryz.sizeOf20
 v20:=Tryz.zeroValue20
 t31:=Tryz.underlying92
 a31:=Tryz.isAgg92
 z31:=Tryz.sizeOf92
 v31:=Tryz.zeroValue92
 t37:=Tryz.underlying133
 a37:=Tryz.isAgg133
 z37:=Tryz.sizeOf133
 v37:=Tryz.zeroValue133
 t70:=Tryz.underlying132
 a70:=Tryz.isAgg132
 z70:=Tryz.sizeOf132
 v70:=Tryz.zeroValue132
 t72:=Tryz.underlying135
 a72:=Tryz.isAgg135
 z72:=Tryz.sizeOf135
 v72:=Tryz.zeroValue135
 t75:=Tryz.underlying138
 a75:=Tryz.isAgg138
 z75:=Tryz.sizeOf138
 v75:=Tryz.zeroValue138
 t76:=Tryz.underlying139
 a76:=Tryz.isAgg139
 z76:=Tryz.sizeOf139
 v76:=Tryz.zeroValue139
 t127:=Tryz.underlying184
 a127:=Tryz.isAgg184
 z127:=Tryz.sizeOf184
 v127:=Tryz.zeroValue184
 t164:=Tryz.underlying209
 a164:=Tryz.isAgg209
 z164:=Tryz.sizeOf209
 v164:=Tryz.zeroValue209
theorem s7:Builder.Extra Tryz.prog QN where
 sizeBuilder:=by kernel_rfl
 liesBuilder:=by kernel_rfl
 t5:=Tryz.underlying5
 a5:=Tryz.isAgg5
 z5:=Tryz.sizeOf5
 v5:=Tryz.zeroValue5
 infoByte:=by kernel_rfl
 cellsByte:=by kernel_rfl
 sizeByte:=by kernel_rfl
 neB5:=by decide
theorem oT (i:Nat) (hi:i<100) (w:World) :
  Calls Tryz.prog 50 #[.int .i64 i] w fun e w'=>e=.returned (.string ⟨(Lib.decDigits i).toArray⟩)/\w'=w:=Any.strconv_Itoa_small C5 i hi w
theorem rX (a:Option Addr) (c:Nat) (sep:ByteArray) (w:World) :
  Calls Tryz.prog 54 #[.slice a 0 c,.string sep] w fun e w'=>e=.returned (.string ⟨#[]⟩)/\w'=w:=Any.strings_Join_none BV s7 a c sep w
theorem lZ (bk o c:Nat) (xs:List ByteArray) (sep:ByteArray) (w:World)
  (ro:∀ (j:Nat) x,xs[j]?=some x->w.cell? ⟨bk,o + j,none⟩=some (.string x))
  (fw:bk<w.heap.size) (hN:xs.length<=140737488355328) (zd:xs.length<=c)
  (da:(Lib.join (xs.map (·.data.toList)) sep.data.toList).length<=140737488355328) :
  Calls Tryz.prog 54 #[.slice (some ⟨bk,o,none⟩) xs.length c,.string sep] w fun e w'=>e=.returned (.string ⟨(Lib.join (xs.map (·.data.toList)) sep.data.toList).toArray⟩)/\Below w.heap.size w w':=Any.strings_Join BV s7 bk o c xs sep w ro fw hN zd da
end
section
open Go Go.RowKit
theorem pZ (sep:List UInt8):∀ xs:List (List UInt8),cC sep xs=Lib.join xs sep
 | []=>rfl
 | [x]=>(Lib.join_one x sep).symm
 | x :: y :: r=>by
  show x++sep++cC sep (y :: r)=_;rw [pZ sep (y :: r),Lib.join_cons,Lib.join_cons];simp [Lib.joinTail,yA]
theorem E5 {O:OB} {n:Int} (h0:0<=n) (h1:n<100):EA Tryz.prog O 50 [.int .i64 n] none (.str ⟨(if n<10 then [UInt8.ofNat (48 + n.toNat)] else [UInt8.ofNat (48 + n.toNat / 10),UInt8.ofNat (48 + n.toNat % 10)]).toArray⟩,none):=by
 refine (EA.of rfl).2 ⟨enters_of Tryz.func50 (by kernel_rfl) rfl,?_⟩;intro av w vs ub ka;simp only [jC] at ka;obtain ⟨u,us,rfl,hu,rfl⟩:=ka;rw [cA] at hu;subst hu;have:=oT n.toNat (by omega) w;rw [show ((n.toNat:Nat):Int)=n from by omega] at this;refine this.mono ?_;rintro e w' ⟨rfl,rfl⟩;refine ⟨_,rfl,?_,Below.refl _ _⟩;simp only [xB];congr 3;by_cases h:n<10
 ·rw [if_pos h,Lib.decDigits_one (by omega)]
 ·rw [if_neg h,Lib.decDigits_two (by omega) (by omega)]
theorem UN {av:Av} {w:World}:∀ {l:List (List AV)} {xs:List (List UInt8)} {us:List Value},wN l=some xs->IA av w l.flatten us->us=xs.map (fun x=>.string ⟨x.toArray⟩)/\l.length=xs.length
 | [],xs,us,h,hr=>by
  injection h with h;subst h;exact ⟨hr,rfl⟩
 | c :: r,xs,us,h,hr=>by
  unfold wN at h;split at h
  ·rename_i e; cases e
  ·rename_i x r' e;injection e with e1 e2;subst e1; subst e2;obtain ⟨ys,hy,h⟩:=y8.1 h;subst h;obtain ⟨u,na,rfl,hu,_,hr⟩:=hr;obtain ⟨h1,h2⟩:=UN hy hr;subst h1;simp only [xB] at hu;subst hu;exact ⟨by simp,by simp [h2]⟩
  ·cases h
theorem R5 {O:OB} {l:List (List AV)} {s:ByteArray} {xs:List (List UInt8)} (hx:wN l=some xs) (hl:l.length<=1000) (au:(cC s.data.toList xs).length<=140737488355328):EA Tryz.prog O 54 [.sl false l,.str s] none (.str ⟨(cC s.data.toList xs).toArray⟩,none):=by
 refine (EA.of rfl).2 ⟨enters_of Tryz.func54 (by kernel_rfl) rfl,?_⟩;intro av w vs ub ka;simp only [jC] at ka;obtain ⟨u1,bv,rfl,li,u2,aq,rfl,ug,rfl⟩:=ka;rw [sC] at ug;subst ug;rw [rB] at li;simp only [xB] at li;obtain ⟨A,c,rfl,hc,_,_,hs⟩:=li;rw [pZ] at au ⊢;cases l with
 | nil =>
  injection hx with hx;subst hx;refine (rX A c s w).mono ?_;rintro e w' ⟨rfl,rfl⟩;exact ⟨_,rfl,rfl,Below.refl _ _⟩
 | cons d l =>
  obtain ⟨bk,o,rfl,ja⟩:=(hs trivial).2 (by simp);rw [bB] at ja;obtain ⟨us,hr,ab⟩:=KD ja;obtain ⟨h1,h2⟩:=UN hx hr;subst h1;have hd:(xs.map (fun x=>(⟨x.toArray⟩:ByteArray))).map (·.data.toList)=xs:=by simp [Function.comp_def]
  have uc:∀ (j:Nat) x,(xs.map (fun x=>(⟨x.toArray⟩:ByteArray)))[j]?=some x->w.cell? ⟨bk,o + j,none⟩=some (.string x):=fun j x hj=>by
   refine (ab j (.string x) ?_).1;rw [yl] at hj ⊢;obtain ⟨y,hy,rfl⟩:=y8.1 hj;rw [hy]; rfl
  have kb:0<xs.length:=by rw [<- h2]; simp
  obtain ⟨x0,gu⟩:∃ x0,(xs.map (fun x=>(⟨x.toArray⟩:ByteArray)))[0]?=some x0:=⟨_,yn (by simpa using kb)⟩;have fw:bk<w.heap.size:=by
   have h:=uc 0 x0 gu;obtain ⟨cc,ty,fz,h,_⟩:=jH h;exact uA h
  have:=lZ bk o c (xs.map fun x=>⟨x.toArray⟩) s w uc fw (by simp; omega) (by simp; omega) (by rw [hd]; exact au);rw [hd,yv,<- h2] at this;refine this.mono ?_;rintro e w' ⟨rfl,hb⟩;exact ⟨_,rfl,rfl,hb⟩
theorem b5 {z:Nat} {args:List AV} {r:RV} (h:l5 z args=some r):∃ b l i x,args=[.undef,.sl b l,.int .i64 i,.sl false [x]]/\r=(.sl false (l.take i.toNat++x :: l.drop i.toNat),none)/\0<=i/\i<=l.length/\l.length<=900/\UA z (x :: l)=true:=by
 unfold l5 at h;split at h
 ·rename_i b l i x;split at h
  ·rename_i hc;injection h with h;exact ⟨b,l,i,x,rfl,h.symm,hc.1,hc.2.1,hc.2.2.1,hc.2.2.2.1⟩
  ·cases h
 ·cases h
theorem K4 {z:Nat} {args:List AV} {r:RV} (h:J4 z args=some r):∃ l i,args=[.undef,.sl false l,.int .i64 i,.int .i64 (i + 1)]/\r=(.sl false (l.take i.toNat++l.drop (i + 1).toNat),none)/\0<=i/\i + 1<=l.length/\l.length<=900/\UA z l=true:=by
 unfold J4 at h;split at h
 ·rename_i l i j;split at h
  ·rename_i hc;injection h with h;obtain ⟨h1,rfl,h3,h4,h5⟩:=hc;exact ⟨l,i,rfl,h.symm,h1,h3,h4,h5⟩
  ·cases h
 ·cases h
theorem JW {O:OB} (f:FuncId) (args:List AV) (S:Option AV) (r:RV) (h:pA f args S=some r):EA Tryz.prog O f args S r:=by
  unfold pA at h
  repeat' split at h
  all_goals first
    | (subst_vars; obtain ⟨b,l,i,x,rfl,rfl,h0,h1,h2,h3⟩:=b5 h; first | exact RZ h0 h1 h2 h3 | exact U0 h0 h1 h2 h3)
    | (subst_vars; obtain ⟨l,i,rfl,rfl,h0,h1,h2,h3⟩:=K4 h; first | exact QZ h0 h1 h2 h3 | exact E0 h0 h1 h2 h3)
    | exact UW f args S r h
    | (subst_vars
       unfold XV at h;split at h
       · split at h
         · rename_i hc
           injection h with h;subst h;exact E5 hc.1 hc.2
         · cases h
       · cases h)
    | (subst_vars
       unfold jnE at h;split at h
       · obtain ⟨xs,hx,h⟩:=y0.1 h
         split at h
         · rename_i hc
           injection h with h;subst h;exact R5 hx hc.1 hc.2
         · cases h
       · cases h)
    | cases h
end
structure B9 where
 id:Int
 data:ByteArray
 deriving DecidableEq
inductive Vl where
 | mk (kind:Int) (b:Bool) (i:Int) (s:ByteArray) (id:Int) (kn:Bool) (keys:List Vl) (xn:Bool) (items:List Vl) (rn:Bool) (rest:List B9)
namespace Vl
def kind:Vl->Int | .mk k _ _ _ _ _ _ _ _ _ _=>k
def b:Vl->Bool | .mk _ b _ _ _ _ _ _ _ _ _=>b
def i:Vl->Int | .mk _ _ i _ _ _ _ _ _ _ _=>i
def s:Vl->ByteArray | .mk _ _ _ s _ _ _ _ _ _ _=>s
def id:Vl->Int | .mk _ _ _ _ d _ _ _ _ _ _=>d
def kn:Vl->Bool | .mk _ _ _ _ _ k _ _ _ _ _=>k
def keys:Vl->List Vl | .mk _ _ _ _ _ _ l _ _ _ _=>l
def xn:Vl->Bool | .mk _ _ _ _ _ _ _ x _ _ _=>x
def items:Vl->List Vl | .mk _ _ _ _ _ _ _ _ l _ _=>l
def rn:Vl->Bool | .mk _ _ _ _ _ _ _ _ _ r _=>r
def rest:Vl->List B9 | .mk _ _ _ _ _ _ _ _ _ _ l=>l
theorem keys_lt (v x:Vl) (h:x∈v.keys):SizeOf.sizeOf x<SizeOf.sizeOf v:=by
 cases v;have:=List.sizeOf_lt_of_mem h;simp only [keys] at this;simp only [mk.sizeOf_spec];omega
theorem items_lt (v x:Vl) (h:x∈v.items):SizeOf.sizeOf x<SizeOf.sizeOf v:=by
 cases v;have:=List.sizeOf_lt_of_mem h;simp only [items] at this;simp only [mk.sizeOf_spec];omega
end Vl
def pR (r:B9):List AV:=[.int .i64 r.id,.str r.data]
mutual
def AH:Vl->List AV
 | .mk k b i s d kn ks xn xs rn rs=>[.int .i64 k,.bool b,.int .i64 i,.str s,.int .i64 d,.sl kn (EQ ks),.sl xn (EQ xs),.sl rn (rs.map pR)]
def EQ:List Vl->List (List AV)
 | []=>[]
 | v :: r=>AH v :: EQ r
end
theorem eN:∀ l:List Vl,EQ l=l.map AH
 | []=>by rw [EQ]; rfl
 | v :: r=>by rw [EQ,eN r]; rfl
theorem WE (v:Vl):AH v=[.int .i64 v.kind,.bool v.b,.int .i64 v.i,.str v.s,.int .i64 v.id,.sl v.kn (v.keys.map AH),.sl v.xn (v.items.map AH),.sl v.rn (v.rest.map pR)]:=by
 cases v;rw [AH,eN,eN];rfl
mutual
/-- lengths that occur -/
def Vl.ok:Vl->Prop
 | .mk _ _ _ s _ _ ks _ xs _ rs=>ks.length<=9223372036854775807/\xs.length<=9223372036854775807/\rs.length<=9223372036854775807/\s.size<=9223372036854775807/\Vl.oks ks/\Vl.oks xs
def Vl.oks:List Vl->Prop
 | []=>True
 | v :: r=>Vl.ok v/\Vl.oks r
end
theorem Vl.oks_iff:∀ l:List Vl,Vl.oks l ↔ ∀ v∈l,v.ok
 | []=>by simp [Vl.oks]
 | v :: r=>by simp [Vl.oks,Vl.oks_iff r]
theorem Vl.ok_def (v:Vl):v.ok ↔ v.keys.length<=9223372036854775807/\v.items.length<=9223372036854775807/\v.rest.length<=9223372036854775807/\v.s.size<=9223372036854775807/\(∀ x∈v.keys,x.ok)/\∀ x∈v.items,x.ok:=by
 cases v;rw [Vl.ok,Vl.oks_iff,Vl.oks_iff];rfl
def Vl.zero:Vl:=.mk 0 false 0 ⟨#[]⟩ 0 true [] true [] true []
structure XX where
 id:Int
 name:ByteArray
 deriving DecidableEq
def dB (x:XX):List AV:=[.int .i64 x.id,.str x.name]
structure uN where
 id:Int
 name:ByteArray
 ty:Int
 crit:Bool
 has:Bool
 dflt:Vl
def tB (m:uN):List AV:=[.int .i64 m.id,.str m.name,.int .i64 m.ty,.bool m.crit,.bool m.has,.int .i64 m.dflt.kind,.bool m.dflt.b,.int .i64 m.dflt.i,.str m.dflt.s,.int .i64 m.dflt.id,.sl m.dflt.kn (m.dflt.keys.map AH),.sl m.dflt.xn (m.dflt.items.map AH),.sl m.dflt.rn (m.dflt.rest.map pR)]
structure ZE where
 kind:Int
 name:ByteArray
 low:Int
 high:Int
 max:Int
 sn:Bool
 syms:List XX
 mn:Bool
 mems:List uN
 key:Int
 elem:Int
 opn:Bool
def dH (t:ZE):List AV:=[.int .i64 t.kind,.str t.name,.int .i64 t.low,.int .i64 t.high,.int .i64 t.max,.sl t.sn (t.syms.map dB),.sl t.mn (t.mems.map tB),.int .i64 t.key,.int .i64 t.elem,.bool t.opn]
structure Sch where
 nl:Bool
 types:List ZE
def A6 (s:Sch):List AV:=[.sl s.nl (s.types.map dH)]
def uN.ok (m:uN):Prop:=m.dflt.ok/\m.name.size<=9223372036854775807
def ZE.ok (t:ZE):Prop:=t.syms.length<=9223372036854775807/\t.mems.length<=9223372036854775807/\∀ m∈t.mems,m.ok
def Sch.ok (s:Sch):Prop:=s.types.length<=9223372036854775807/\∀ t∈s.types,t.ok
theorem RQ {i:Nat} (h:i<9223372036854775807:=by omega):IntKind.i64.wrap ((i:Int) + 1)=((i + 1:Nat):Int):=by
 rw [IntWalk.i64_in _ (by omega)]; rfl
theorem C4 (l:List XX):UA 2 (l.map dB)=true:=uM _ _ _ fun _=>rfl
theorem X4 (l:List uN):UA 13 (l.map tB)=true:=uM _ _ _ fun _=>rfl
theorem GQ {f:Nat} {c:PA} {args:List AV} {r:RV} (hT:RA f=some c) (hl:args.length=c.np) (h:c.code.run (cP RA kC) (o7 RA kC) (tA.init args none) (uQ c none)=some r) (hm:IC args=false:=by rfl):cP RA kC f args none=some r:=mA c hT hl h hm
abbrev N4 (f:Nat) (args:List AV) (v:AV):Prop:=cP RA kC f args none=some (v,none)

mutual
def Vl.same:Vl->Vl->Bool
 | .mk k b i s d _ ks _ xs _ rs,.mk k' b' i' s' d' _ ks' _ cn _ rs'=>decide (k=k')&&(b == b')&&decide (i=i')&&decide (s=s')&&decide (d=d')&&decide (rs=rs')&&Vl.sames ks ks'&&Vl.sames xs cn
def Vl.sames:List Vl->List Vl->Bool
 | [],[]=>true
 | v :: r,v' :: r'=>Vl.same v v'&&Vl.sames r r'
 | [],_ :: _=>false
 | _ :: _,[]=>false
end
abbrev eC (v:Vl):List qA:=[⟨.int .i64 v.kind,.no⟩,⟨.bool v.b,.no⟩,⟨.int .i64 v.i,.no⟩,⟨.str v.s,.no⟩,⟨.int .i64 v.id,.no⟩,⟨.sl v.kn (v.keys.map AH),.no⟩,⟨.sl v.xn (v.items.map AH),.no⟩,⟨.sl v.rn (v.rest.map pR),.no⟩]
def uN.same (m m':uN):Bool:=decide (m.id=m'.id)&&decide (m.name=m'.name)&&decide (m.ty=m'.ty)&&(m.crit == m'.crit)&&(m.has == m'.has)&&m.dflt.same m'.dflt
def pS:List uN->List uN->Bool
 | [],[]=>true
 | m :: r,m' :: r'=>m.same m'&&pS r r'
 | [],_ :: _=>false
 | _ :: _,[]=>false
def ZE.same (t u:ZE):Bool:=decide (t.kind=u.kind)&&decide (t.name=u.name)&&decide (t.low=u.low)&&decide (t.high=u.high)&&decide (t.max=u.max)&&decide (t.key=u.key)&&decide (t.elem=u.elem)&&(t.opn == u.opn)&&decide (t.syms=u.syms)&&pS t.mems u.mems

theorem anN_t (a:An):SS true a=.ex:=rfl
theorem anN_f (a:An):SS false a=a:=rfl
theorem I7 (b:Bool):SS b .ex=.ex:=by cases b <;> rfl
attribute [simp] anN_t anN_f I7
theorem QJ {b:C} {r:RV} (n:Nat) (I:Nat->tA->Prop) (E:Ex->tA->Prop)
  (step:∀ i,i<=n->∀ s k,I i s->(i<n->∀ s',I (i + 1) s'->cR RA kC b s' k=some r)->(∀ e s',E e s'->k e s'=some r)->cR RA kC b s k=some r)
  (s:tA) (k:Ex->tA->Option RV) (h:I 0 s) (hk:∀ e s',E e s'->k e s'=some r):cR RA kC b s k=some r:=by
 have:∀ m i,i + m=n->∀ s,I i s->cR RA kC b s k=some r:=by
  intro m
  induction m with
  | zero=>intro i hi s h; exact step i (by omega) s k h (fun eb=>absurd eb (by omega)) hk
  | succ m ih=>intro i hi s h; exact step i (by omega) s k h (fun _ s' h'=>ih (i + 1) (by omega) s' h') hk
 exact this n 0 (by omega) s h
instance memStr (s:ByteArray) (l:List ByteArray):Decidable (s∈l):=@List.instDecidableMemOfLawfulBEq _ instBEqOfDecidableEq _ s l


def NL:ZE:=⟨0,⟨#[]⟩,0,0,0,true,[],true,[],0,0,false⟩
theorem kinds (k:Int):k=1\/k=2\/k=3\/k=4\/k=5\/k=6\/k=7\/k=8\/k=9\/¬ (1<=k/\k<=9):=by omega

def Vl.bare (v:Vl):Vl:=.mk v.kind (if v.kind=1 then v.b else false) (if v.kind=2 then v.i else 0) (if v.kind=3 then v.s else ⟨#[]⟩) (if v.kind=4\/v.kind=6 then v.id else 0)
 (if v.kind=8 then v.kn else true) (if v.kind=8 then v.keys else []) (if 5<=v.kind then v.xn else true) (if 5<=v.kind then v.items else []) (if v.kind=5\/v.kind=6 then v.rn else true) (if v.kind=5\/v.kind=6 then v.rest else [])




section
open Go Go.RowKit
theorem P8:Tryz.prog.follows .mixedOrders=true:=by kernel_rfl
theorem D4 {f:FuncId} {args:List AV} {S:Option AV} {r:RV} (h:kC f args S=some r):pA f args S=some r:=by
  have h':=h;unfold kC at h
  first
  | (cases h; done)
  | (unfold pA
     split at h
     · rename_i e; subst e; exact h'
     · split at h
       · rename_i e; subst e; exact h'
       · cases h)
theorem ev_W {f:Nat} {args:List AV} {S:Option AV} {r:RV} (h:cP RA kC f args S=some r):cP RA pA f args S=some r:=FR (fun _ _ _ _ h=>D4 h) h
end
mutual
/-- a value as it lies in memory: nil slices are empty; no list is longer than a slice may be -/
def Vl.lay:Vl->Prop
 | .mk _ _ _ _ _ kn ks xn xs rn rs=>(kn=true->ks=[])/\(xn=true->xs=[])/\(rn=true->rs=[])/\ks.length * 120<=140737488351232/\xs.length * 120<=140737488351232/\rs.length * 24<=140737488351232/\Vl.lays ks/\Vl.lays xs
def Vl.lays:List Vl->Prop
 | []=>True
 | v :: r=>Vl.lay v/\Vl.lays r
end
theorem Vl.lays_iff:∀ l:List Vl,Vl.lays l ↔ ∀ v∈l,v.lay
 | []=>by simp [Vl.lays]
 | v :: r=>by simp [Vl.lays,Vl.lays_iff r]
theorem Vl.lay_def (v:Vl):v.lay ↔ (v.kn=true->v.keys=[])/\(v.xn=true->v.items=[])/\(v.rn=true->v.rest=[])/\v.keys.length * 120<=140737488351232/\v.items.length * 120<=140737488351232/\v.rest.length * 24<=140737488351232/\(∀ x∈v.keys,x.lay)/\∀ x∈v.items,x.lay:=by
 cases v;rw [Vl.lay,Vl.lays_iff,Vl.lays_iff];rfl

def IH:Int->List B9->Int
 | n,[]=>n
 | n,x :: r=>IH (IntKind.i64.wrap (IntKind.i64.wrap (n + 1) + x.data.size)) r
mutual
def kP:Vl->Int
 | .mk _ _ _ s _ _ ks _ xs _ rs=>IH (JB (JB (IntKind.i64.wrap (1 + s.size)) ks) xs) rs
def JB:Int->List Vl->Int
 | n,[]=>n
 | n,v :: r=>JB (IntKind.i64.wrap (n + kP v)) r
end
theorem mX (v:Vl):kP v=IH (JB (JB (IntKind.i64.wrap (1 + v.s.size)) v.keys) v.items) v.rest:=by
 cases v;rw [kP];rfl
section
variable (n:Nat) (zy:∀ v:Vl,SizeOf.sizeOf v<n->v.ok->N4 33 [.agg (AH v)] (.int .i64 (kP v))) {rv:RV} (v:Vl)
include n zy rv v
theorem f0 (hl:v.keys.length<=9223372036854775807) (hv:∀ x∈v.keys,SizeOf.sizeOf x<n/\x.ok) (a0:Int) (s:tA) (e1:(s.env 1).v=.ptr 1 1 0) (m1:s.mem 1 1=some (eC v)) (e3:(s.env 3).v=.int .i64 a0) (e4:(s.env 4).v=.int .i64 0) (k:Ex->tA->Option RV)
  (hk:∀ s',(s'.env 1).v=.ptr 1 1 0->s'.mem 1 1=some (eC v)->(s'.env 3).v=.int .i64 (JB a0 v.keys)->k (.exit 0) s'=some rv):cR RA kC uD s k=some rv:=by
 refine QJ v.keys.length (fun i s=>(s.env 1).v=.ptr 1 1 0/\s.mem 1 1=some (eC v)/\(∃ a,(s.env 3).v=.int .i64 a/\JB a (v.keys.drop i)=JB a0 v.keys)/\(s.env 4).v=.int .i64 i)
  (fun e s=>e=.exit 0/\(s.env 1).v=.ptr 1 1 0/\s.mem 1 1=some (eC v)/\(s.env 3).v=.int .i64 (JB a0 v.keys)) (fun i hi s k h ih hk=>?_) _ _ ⟨e1,m1,⟨a0,e3,rfl⟩,e4⟩ (fun e s h=>by obtain ⟨rfl,h1,h2,h3⟩:=h; exact hk _ h1 h2 h3)
 obtain ⟨e1,m1,⟨a,e3,hs⟩,ei⟩:=h;refine zB ?_;have m1':=m1;simp only [eC] at m1;by_cases eb:i<v.keys.length
 ·have fc:(i:Int)<v.keys.length:=by omega
  have g1:(v.keys.map AH)[i]?=some (AH v.keys[i]):=by simp [eb]
  have hw:=RQ (i:=i);obtain ⟨oy,py⟩:=hv _ (List.getElem_mem eb);have hx:=zy _ oy py;rw [yI eb,JB] at hs;generalize v.keys[i]=x at *
  simp only [N4,WE] at hx;rw [WE x] at g1;simp [uD,-U,-y4,-J,y3,e1,m1,e3,ei,fc,g1,hx,hw];refine ih eb _ ⟨?_,?_,⟨_,?_,hs⟩,?_⟩
  ·simp [e1]
  ·simp [m1,eC]
  ·simp
  ·simp
 ·have fc:¬ (i:Int)<v.keys.length:=by omega
  rw [yD (by omega),JB] at hs;simp [uD,-U,-y4,-J,y3,e1,m1,ei,fc];refine hk _ _ ⟨rfl,?_,?_,?_⟩
  ·simp [e1]
  ·simp [m1,eC]
  ·simp [e3,hs]
theorem p0 (hl:v.items.length<=9223372036854775807) (hv:∀ x∈v.items,SizeOf.sizeOf x<n/\x.ok) (a0:Int) (s:tA) (e1:(s.env 1).v=.ptr 1 1 0) (m1:s.mem 1 1=some (eC v)) (e3:(s.env 3).v=.int .i64 a0) (e5:(s.env 5).v=.int .i64 0) (k:Ex->tA->Option RV)
  (hk:∀ s',(s'.env 1).v=.ptr 1 1 0->s'.mem 1 1=some (eC v)->(s'.env 3).v=.int .i64 (JB a0 v.items)->k (.exit 2) s'=some rv):cR RA kC tD s k=some rv:=by
 refine QJ v.items.length (fun i s=>(s.env 1).v=.ptr 1 1 0/\s.mem 1 1=some (eC v)/\(∃ a,(s.env 3).v=.int .i64 a/\JB a (v.items.drop i)=JB a0 v.items)/\(s.env 5).v=.int .i64 i)
  (fun e s=>e=.exit 2/\(s.env 1).v=.ptr 1 1 0/\s.mem 1 1=some (eC v)/\(s.env 3).v=.int .i64 (JB a0 v.items)) (fun i hi s k h ih hk=>?_) _ _ ⟨e1,m1,⟨a0,e3,rfl⟩,e5⟩ (fun e s h=>by obtain ⟨rfl,h1,h2,h3⟩:=h; exact hk _ h1 h2 h3)
 obtain ⟨e1,m1,⟨a,e3,hs⟩,ei⟩:=h;refine zB ?_;have m1':=m1;simp only [eC] at m1;by_cases eb:i<v.items.length
 ·have fc:(i:Int)<v.items.length:=by omega
  have g1:(v.items.map AH)[i]?=some (AH v.items[i]):=by simp [eb]
  have hw:=RQ (i:=i);obtain ⟨oy,py⟩:=hv _ (List.getElem_mem eb);have hx:=zy _ oy py;rw [yI eb,JB] at hs;generalize v.items[i]=x at *
  simp only [N4,WE] at hx;rw [WE x] at g1;simp [tD,-U,-y4,-J,y3,e1,m1,e3,ei,fc,g1,hx,hw];refine ih eb _ ⟨?_,?_,⟨_,?_,hs⟩,?_⟩
  ·simp [e1]
  ·simp [m1,eC]
  ·simp
  ·simp
 ·have fc:¬ (i:Int)<v.items.length:=by omega
  rw [yD (by omega),JB] at hs;simp [tD,-U,-y4,-J,y3,e1,m1,ei,fc];refine hk _ _ ⟨rfl,?_,?_,?_⟩
  ·simp [e1]
  ·simp [m1,eC]
  ·simp [e3,hs]
end
theorem o0 {rv:RV} (v:Vl) (hl:v.rest.length<=9223372036854775807) (a0:Int) (s:tA) (e1:(s.env 1).v=.ptr 1 1 0) (m1:s.mem 1 1=some (eC v)) (e3:(s.env 3).v=.int .i64 a0) (e6:(s.env 6).v=.int .i64 0) (k:Ex->tA->Option RV)
  (hk:∀ s',(s'.env 3).v=.int .i64 (IH a0 v.rest)->k (.exit 4) s'=some rv):cR RA kC rD s k=some rv:=by
 refine QJ v.rest.length (fun i s=>(s.env 1).v=.ptr 1 1 0/\s.mem 1 1=some (eC v)/\(∃ a,(s.env 3).v=.int .i64 a/\IH a (v.rest.drop i)=IH a0 v.rest)/\(s.env 6).v=.int .i64 i)
  (fun e s=>e=.exit 4/\(s.env 3).v=.int .i64 (IH a0 v.rest)) (fun i hi s k h ih hk=>?_) _ _ ⟨e1,m1,⟨a0,e3,rfl⟩,e6⟩ (fun e s h=>by obtain ⟨rfl,h1⟩:=h; exact hk _ h1)
 obtain ⟨e1,m1,⟨a,e3,hs⟩,ei⟩:=h;refine zB ?_;simp only [eC] at m1;by_cases eb:i<v.rest.length
 ·have fc:(i:Int)<v.rest.length:=by omega
  have g1:(v.rest.map pR)[i]?=some (pR v.rest[i]):=by simp [eb]
  have hw:=RQ (i:=i);rw [yI eb,IH] at hs;generalize v.rest[i]=x at *
  simp only [pR] at g1;simp [rD,-U,-y4,-J,y3,e1,m1,e3,ei,fc,g1,hw];refine ih eb _ ⟨?_,?_,⟨_,?_,hs⟩,?_⟩
  ·simp [e1]
  ·simp [m1,eC]
  ·simp
  ·simp
 ·have fc:¬ (i:Int)<v.rest.length:=by omega
  rw [yD (by omega),IH] at hs;simp [rD,-U,-y4,-J,y3,e1,m1,ei,fc];exact hk _ _ ⟨rfl,by simp [e3,hs]⟩
theorem G6:∀ (n:Nat) (v:Vl),SizeOf.sizeOf v<n->v.ok->N4 33 [.agg (AH v)] (.int .i64 (kP v)):=by
 intro n
 induction n with
 | zero=>intro v h; omega
 | succ n ih =>
  intro v hn hv;rw [Vl.ok_def] at hv;obtain ⟨k1,k2,k3,k4,k5,k6⟩:=hv;refine GQ (c:=DE) rfl rfl ?_;rw [WE];simp [DE,-U,-y4,-J,y3];refine f0 n ih v k1 (fun x hx=>⟨by have:=Vl.keys_lt v x hx; omega,k5 x hx⟩) (IntKind.i64.wrap (1 + v.s.size)) _ ?_ ?_ ?_ ?_ _ (fun s' e1 m1 e3=>?_)
  ·simp
  ·simp [eC]
  ·simp
  ·simp
  simp [-U,-y4,-J,y3];refine p0 n ih v k2 (fun x hx=>⟨by have:=Vl.items_lt v x hx; omega,k6 x hx⟩) (JB (IntKind.i64.wrap (1 + v.s.size)) v.keys) _ ?_ ?_ ?_ ?_ _ (fun s2 f1 n1 f3=>?_)
  ·simp [e1]
  ·simpa using m1
  ·simp [e3]
  ·simp
  simp [-U,-y4,-J,y3];refine o0 v k3 (JB (JB (IntKind.i64.wrap (1 + v.s.size)) v.keys) v.items) _ ?_ ?_ ?_ ?_ _ (fun s3 g3=>?_)
  ·simp [f1]
  ·simpa using n1
  ·simp [f3]
  ·simp
  simp [-U,-y4,-J,y3,g3,mX]
def RN:Int->List uN->Int
 | n,[]=>n
 | n,m :: r=>RN (IntKind.i64.wrap (IntKind.i64.wrap (n + kP m.dflt) + m.name.size)) r
def typF (n:Int) (t:ZE):Int:=RN (IntKind.i64.wrap (IntKind.i64.wrap (IntKind.i64.wrap (n + t.mems.length) + t.syms.length) + t.name.size)) (t.mems.take 100)
def GK:Int->List ZE->Int
 | n,[]=>n
 | n,t :: r=>GK (typF n t) r
def q5 (s:Sch):Bool:=!decide (40<s.types.length)&&decide (GK 0 s.types<=400)
def US (t:ZE):List qA:=(dH t).map (⟨·,.no⟩)
theorem w5 {rv:RV} (t:ZE) (ht:∀ m∈t.mems,m.ok) (hl:t.mems.length<=9223372036854775807) {nl:Bool} {S:List ZE} {j:Nat} {n5:Nat} (a0:Int) (s:tA) (e1:(s.env 1).v=.ptr 1 1 0) (m1:s.mem 1 1=some [⟨.sl nl (S.map dH),.no⟩]) (e3:(s.env 3).v=.int .i64 a0) (e4:(s.env 4).v=.int .i64 j) (e5:(s.env 5).v=.ptr 5 n5 0) (m5:s.mem 5 n5=some (US t)) (e6:(s.env 6).v=.int .i64 0) (k:Ex->tA->Option RV)
  (hk:∀ s',(s'.env 1).v=.ptr 1 1 0->s'.mem 1 1=some [⟨.sl nl (S.map dH),.no⟩]->(s'.env 3).v=.int .i64 (RN a0 (t.mems.take 100))->(s'.env 4).v=.int .i64 j->k (.exit 2) s'=some rv):cR RA kC EC s k=some rv:=by
 have hN:(t.mems.take 100).length<=t.mems.length/\(t.mems.take 100).length<=100/\((t.mems.take 100).length=t.mems.length\/(t.mems.take 100).length=100):=by
  rw [yc];omega
 obtain ⟨N,hNe⟩:∃ N,(t.mems.take 100).length=N:=⟨_,rfl⟩;rw [hNe] at hN;obtain ⟨hN1,hN2,hN3⟩:=hN;refine QJ N (fun i s=>(s.env 1).v=.ptr 1 1 0/\s.mem 1 1=some [⟨.sl nl (S.map dH),.no⟩]/\(∃ a,(s.env 3).v=.int .i64 a/\RN a ((t.mems.take 100).drop i)=RN a0 (t.mems.take 100))/\(s.env 4).v=.int .i64 j/\(s.env 5).v=.ptr 5 n5 0/\s.mem 5 n5=some (US t)/\(s.env 6).v=.int .i64 i)
  (fun e s=>e=.exit 2/\(s.env 1).v=.ptr 1 1 0/\s.mem 1 1=some [⟨.sl nl (S.map dH),.no⟩]/\(s.env 3).v=.int .i64 (RN a0 (t.mems.take 100))/\(s.env 4).v=.int .i64 j) (fun i hi s k h ih hk=>?_) _ _ ⟨e1,m1,⟨a0,e3,rfl⟩,e4,e5,m5,e6⟩ (fun e s h=>by obtain ⟨rfl,h1,h2,h3,h4⟩:=h; exact hk _ h1 h2 h3 h4)
 obtain ⟨e1,m1,⟨a,e3,hs⟩,e4,e5,m5,e6⟩:=h;refine zB ?_;simp only [US,dH,yf,List.map_nil] at m5;by_cases eb:i<N
 ·have fc:(i:Int)<t.mems.length:=by omega
  have ax:(i:Int)<100:=by omega
  have oz:i<t.mems.length:=by omega
  have hi3:i<(t.mems.take 100).length:=by omega
  have g1:(t.mems.map tB)[i]?=some (tB t.mems[i]):=by simp [oz]
  have hw:=RQ (i:=i);have hx:=G6 _ _ (Nat.lt_succ_self _) (ht _ (List.getElem_mem oz)).1;rw [yI hi3,RN,List.getElem_take] at hs;generalize t.mems[i]=x at *
  simp only [tB] at g1;simp only [N4,WE] at hx;simp [EC,-U,-y4,-J,y3,e3,e5,m5,e6,fc,ax,g1,hx,hw];refine ih eb _ ⟨?_,?_,⟨_,?_,hs⟩,?_,?_,?_,?_⟩
  ·simp [e1]
  ·simp [m1]
  ·simp
  ·simp [e4]
  ·simp [e5]
  ·simp [m5,US,dH]
  ·simp
 ·have sm:i=N:=by omega
  rw [yD (by omega),RN] at hs;by_cases c:(i:Int)<t.mems.length
  ·have c2:¬ (i:Int)<100:=by omega
   simp [EC,-U,-y4,-J,y3,e5,m5,e6,c,c2];exact hk _ _ ⟨rfl,by simp [e1],by simp [m1],by simp [e3,hs],by simp [e4]⟩
  ·simp [EC,-U,-y4,-J,y3,e5,m5,e6,c];exact hk _ _ ⟨rfl,by simp [e1],by simp [m1],by simp [e3,hs],by simp [e4]⟩
theorem e8 (s:Sch) (hs:s.ok):N4 12 [.agg (A6 s)] (.bool (q5 s)):=by
 obtain ⟨hl,ht⟩:=hs;refine GQ (c:=cE) rfl rfl ?_;unfold q5;by_cases c:40<s.types.length
 ·have c':(40:Int)<s.types.length:=by omega
  simp [cE,-U,-y4,-J,y3,A6,c,c']
 have c':¬ (40:Int)<s.types.length:=by omega
 simp [cE,-U,-y4,-J,y3,A6,c,c'];refine QJ s.types.length (fun i st=>(st.env 1).v=.ptr 1 1 0/\st.mem 1 1=some [⟨.sl s.nl (s.types.map dH),.no⟩]/\(∃ a,(st.env 3).v=.int .i64 a/\GK a (s.types.drop i)=GK 0 s.types)/\(st.env 4).v=.int .i64 i)
  (fun e st=>e=.exit 0/\(st.env 3).v=.int .i64 (GK 0 s.types)) (fun i hi st k h ih hk=>?_) _ _ ?_ (fun e st h=>?_)
 ·obtain ⟨e1,m1,⟨a,e3,fv⟩,e4⟩:=h;refine zB ?_;by_cases eb:i<s.types.length
  ·have fc:(i:Int)<s.types.length:=by omega
   have g1:(s.types.map dH)[i]?=some (dH s.types[i]):=by simp [eb]
   have hw:=RQ (i:=i);have tl:=ht _ (List.getElem_mem eb);rw [yI eb,GK] at fv;generalize s.types[i]=x at *
   simp only [dH] at g1;simp [iF,-U,-y4,-J,y3,e1,m1,e3,e4,fc,g1];refine w5 (nl:=s.nl) (S:=s.types) x tl.2.2 tl.2.1 (j:=i) (n5:=st.next + 1) (IntKind.i64.wrap (IntKind.i64.wrap (IntKind.i64.wrap (a + x.mems.length) + x.syms.length) + x.name.size)) _ ?_ ?_ ?_ ?_ ?_ ?_ ?_ _ (fun s' f1 n1 f3 f4=>?_)
   ·simp [e1]
   ·simp [m1]
   ·simp
   ·simp [e4]
   ·simp
   ·simp [US,dH]
   ·simp
   ·simp [-U,-y4,-J,y3,f4,hw];refine ih eb _ ⟨?_,?_,⟨_,?_,fv⟩,?_⟩
    ·simp [f1]
    ·simp [n1]
    ·simp [f3,typF]
    ·simp
  ·have fc:¬ (i:Int)<s.types.length:=by omega
   rw [yD (by omega),GK] at fv;simp [iF,-U,-y4,-J,y3,e1,m1,e4,fc];exact hk _ _ ⟨rfl,by simp [e3,fv]⟩
 ·refine ⟨?_,?_,⟨0,?_,rfl⟩,?_⟩ <;> simp
 ·obtain ⟨rfl,e3⟩:=h;simp [-U,-y4,-J,y3,e3]
end Go.Proofs.YtbhbeakhognieaaGreatDoor
