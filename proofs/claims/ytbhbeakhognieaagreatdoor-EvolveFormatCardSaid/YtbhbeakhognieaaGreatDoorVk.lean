/- A part of the proof. -/
import Derived.Test.YtbhbeakhognieaaGreatDoorVf
set_option linter.all false
set_option maxRecDepth 100000
set_option maxHeartbeats 8000000
open List renaming map_map → J, map_congr_left → yo
open Option renaming map_eq_some_iff → y8
open Nat renaming le_trans → yp
namespace Go.Proofs.YtbhbeakhognieaaGreatDoor
open Go
structure Prt where
 id:Int
 ty:Int
 flag:Int
structure z1 where
 k:Int
 a:Int
 b:Int
 c:Int
 pn:Bool
 parts:List Prt
def u8 (n:Int):Prop:=0<=n/\n<=255
def Prt.ok (x:Prt):Prop:=u8 x.id/\u8 x.ty/\u8 x.flag
def z1.ok (x:z1):Prop:=u8 x.k/\u8 x.a/\u8 x.b/\u8 x.c/\x.parts.length<=9223372036854775807/\∀ p∈x.parts,p.ok
def z1.kind (x:z1):Int:=1 + x.k % 9
def z1.low (x:z1):Int:=x.a % 7 - 3
def z1.high (x:z1):Int:=x.low + x.b % 6
def oks (l:List z1):Prop:=1<=l.length/\l.length<=5/\∀ x∈l,x.ok
section
set_option maxHeartbeats 2000000
def Vl.of (k:Int) (b:Bool) (i:Int) (s:ByteArray) (d:Int):Vl:=.mk k b i s d true [] true [] true []
end
def low0 (m:Nat) (v:AV):Prop:=∀ t n,m<=n->v.kill0 t n=v
def MQ (m:Nat) (v:AV):Prop:=∀ t n,m<=n->v.kill t n=v
theorem lQ {m m':Nat} (h:m<=m') {v:AV} (hv:MQ m v):MQ m' v:=fun t n hn=>hv t n (yp h hn)
theorem kQ {m t n:Nat} (hn:m<=n) {v:AV} (hv:MQ m v):v.kill t n=v:=hv t n hn
theorem pT (v:AV) (t n t' n':Nat):(v.kill0 t n).kill0 t' n'=(v.kill0 t' n').kill0 t n:=by
 cases v with
 | ptr a b o=>by_cases h1:(a=t/\b=n) <;> by_cases h2:(a=t'/\b=n') <;> first | (simp only [AV.kill0,if_pos h1,if_pos h2]; done) | (simp only [AV.kill0,if_pos h1,if_neg h2]; done) | (simp only [AV.kill0,if_neg h1,if_pos h2]; done) | (simp only [AV.kill0,if_neg h1,if_neg h2]; done)
 | ref a b z o l c=>by_cases h1:(a=t/\b=n) <;> by_cases h2:(a=t'/\b=n') <;> first | (simp only [AV.kill0,if_pos h1,if_pos h2]; done) | (simp only [AV.kill0,if_pos h1,if_neg h2]; done) | (simp only [AV.kill0,if_neg h1,if_pos h2]; done) | (simp only [AV.kill0,if_neg h1,if_neg h2]; done)
 | mp a b=>by_cases h1:(a=t/\b=n) <;> by_cases h2:(a=t'/\b=n') <;> first | (simp only [AV.kill0,if_pos h1,if_pos h2]; done) | (simp only [AV.kill0,if_pos h1,if_neg h2]; done) | (simp only [AV.kill0,if_neg h1,if_pos h2]; done) | (simp only [AV.kill0,if_neg h1,if_neg h2]; done)
 | _=>rfl
theorem wJ (l:List AV) (t n t' n':Nat):(l.map (AV.kill0 t n)).map (AV.kill0 t' n')=(l.map (AV.kill0 t' n')).map (AV.kill0 t n):=by
 rw [J,J];exact yo fun x _=>pT x t n t' n'
theorem fT (v:AV) (t n t' n':Nat):(v.kill1 t n).kill1 t' n'=(v.kill1 t' n').kill1 t n:=by
 cases v with
 | agg cs=>exact congrArg AV.agg (wJ cs t n t' n')
 | ptr a b o=>by_cases h1:(a=t/\b=n) <;> by_cases h2:(a=t'/\b=n') <;> first | (simp only [AV.kill1,AV.kill0,if_pos h1,if_pos h2]; done) | (simp only [AV.kill1,AV.kill0,if_pos h1,if_neg h2]; done) | (simp only [AV.kill1,AV.kill0,if_neg h1,if_pos h2]; done) | (simp only [AV.kill1,AV.kill0,if_neg h1,if_neg h2]; done)
 | ref a b z o l c=>by_cases h1:(a=t/\b=n) <;> by_cases h2:(a=t'/\b=n') <;> first | (simp only [AV.kill1,AV.kill0,if_pos h1,if_pos h2]; done) | (simp only [AV.kill1,AV.kill0,if_pos h1,if_neg h2]; done) | (simp only [AV.kill1,AV.kill0,if_neg h1,if_pos h2]; done) | (simp only [AV.kill1,AV.kill0,if_neg h1,if_neg h2]; done)
 | mp a b=>by_cases h1:(a=t/\b=n) <;> by_cases h2:(a=t'/\b=n') <;> first | (simp only [AV.kill1,AV.kill0,if_pos h1,if_pos h2]; done) | (simp only [AV.kill1,AV.kill0,if_pos h1,if_neg h2]; done) | (simp only [AV.kill1,AV.kill0,if_neg h1,if_pos h2]; done) | (simp only [AV.kill1,AV.kill0,if_neg h1,if_neg h2]; done)
 | _=>rfl
theorem uX (v:AV) (t n t' n':Nat):(v.kill t n).kill t' n'=(v.kill t' n').kill t n:=by
 cases v with
 | agg cs=>exact congrArg AV.agg (wJ cs t n t' n')
 | fn f cs=>exact congrArg (AV.fn f) (wJ cs t n t' n')
 | tup vs =>
  refine congrArg AV.tup ?_;rw [J,J];exact yo fun x _=>fT x t n t' n'
 | ptr a b o=>by_cases h1:(a=t/\b=n) <;> by_cases h2:(a=t'/\b=n') <;> first | (simp only [AV.kill,AV.kill0,if_pos h1,if_pos h2]; done) | (simp only [AV.kill,AV.kill0,if_pos h1,if_neg h2]; done) | (simp only [AV.kill,AV.kill0,if_neg h1,if_pos h2]; done) | (simp only [AV.kill,AV.kill0,if_neg h1,if_neg h2]; done)
 | ref a b z o l c=>by_cases h1:(a=t/\b=n) <;> by_cases h2:(a=t'/\b=n') <;> first | (simp only [AV.kill,AV.kill0,if_pos h1,if_pos h2]; done) | (simp only [AV.kill,AV.kill0,if_pos h1,if_neg h2]; done) | (simp only [AV.kill,AV.kill0,if_neg h1,if_pos h2]; done) | (simp only [AV.kill,AV.kill0,if_neg h1,if_neg h2]; done)
 | mp a b=>by_cases h1:(a=t/\b=n) <;> by_cases h2:(a=t'/\b=n') <;> first | (simp only [AV.kill,AV.kill0,if_pos h1,if_pos h2]; done) | (simp only [AV.kill,AV.kill0,if_pos h1,if_neg h2]; done) | (simp only [AV.kill,AV.kill0,if_neg h1,if_pos h2]; done) | (simp only [AV.kill,AV.kill0,if_neg h1,if_neg h2]; done)
 | _=>rfl
theorem EN {m t n:Nat} {v:AV} (hv:MQ m v):MQ m (v.kill t n):=fun t' n' h=>by rw [uX,hv t' n' h]
def cO (m:Nat) (e:Nat->qA):Prop:=∀ t,MQ m (e t).v
def nP (m:Nat) (M:Nat->Nat->Option (List qA)):Prop:=∀ t n r,M t n=some r->∀ x∈r,MQ m x.v
def dN (m:Nat) (M0 M:Nat->Nat->Option (List qA)):Prop:=∀ t n,n<m->M t n=M0 t n
theorem cO.put {m:Nat} {e:Nat->qA} {d:Nat} {x:qA} (h:cO m e) (hx:MQ m x.v):cO m (j9 e d x):=fun t=>by
 rw [uW];split
 ·exact hx
 ·exact h t
theorem cO.mono {m m':Nat} (hm:m<=m') {e:Nat->qA} (h:cO m e):cO m' e:=fun t=>lQ hm (h t)
theorem cO.kill {m:Nat} {e:Nat->qA} (h:cO m e) {t n:Nat}:cO m (JO t n e):=fun j=>by
 rw [KO,qA.kill_v];exact EN (h j)
theorem cO.same {m:Nat} {e:Nat->qA} (h:cO m e) {t n:Nat} (hn:m<=n):JO t n e=e:=funext fun j=>by
 rw [KO];show (⟨(e j).v.kill t n,(e j).a⟩:qA)=e j;rw [kQ hn (h j)]
theorem nP.set {m:Nat} {M:Nat->Nat->Option (List qA)} {t n:Nat} {r:List qA} (h:nP m M) (hr:∀ x∈r,MQ m x.v):nP m (KP M t n r):=fun t' n' r' he=>by
 rw [jO] at he;split at he
 ·injection he with he; subst he; exact hr
 ·exact h t' n' r' he
theorem nP.mono {m m':Nat} (hm:m<=m') {M:Nat->Nat->Option (List qA)} (h:nP m M):nP m' M:=fun t n r he x hx=>lQ hm (h t n r he x hx)
theorem nP.kill {m:Nat} {M:Nat->Nat->Option (List qA)} (h:nP m M) {t n:Nat}:nP m (LO t n M):=fun t' n' r' he x hx=>by
 rw [lL] at he;split at he
 ·cases he
 ·obtain ⟨r,hr,rfl⟩:=y8.1 he;obtain ⟨y,hy,rfl⟩:=List.mem_map.1 hx;rw [qA.kill_v];exact EN (h t' n' r hr y hy)
theorem dN.refl {m:Nat} {M:Nat->Nat->Option (List qA)}:dN m M M:=fun _ _ _=>rfl
theorem dN.set {m:Nat} {M0 M:Nat->Nat->Option (List qA)} {t n:Nat} {r:List qA} (h:dN m M0 M) (hn:m<=n):dN m M0 (KP M t n r):=fun t' n' h'=>by
 rw [jO,if_neg (by omega)];exact h t' n' h'
theorem dN.kill {m:Nat} {M0 M:Nat->Nat->Option (List qA)} (h:dN m M0 M) (h0:nP m M0) {t n:Nat} (hn:m<=n):dN m M0 (LO t n M):=fun t' n' h'=>by
 rw [lL,if_neg (by omega),h t' n' h'];cases hr:M0 t' n' with
 | none=>rfl
 | some r =>
  refine congrArg some ?_;have:r.map (qA.kill t n)=r.map id:=yo fun x hx=>by
   show (⟨x.v.kill t n,x.a⟩:qA)=x;rw [kQ hn (h0 t' n' r hr x hx)]
  rwa [List.map_id] at this
end Go.Proofs.YtbhbeakhognieaaGreatDoor
