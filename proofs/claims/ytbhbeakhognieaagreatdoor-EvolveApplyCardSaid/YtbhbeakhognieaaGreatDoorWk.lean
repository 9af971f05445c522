/- A part of the proof. -/
import Derived.Test.YtbhbeakhognieaaGreatDoorWf
set_option linter.all false
set_option maxRecDepth 100000
set_option maxHeartbeats 8000000
open List renaming map_map → y5, map_congr_left → yH, mem_map → yQ
open Option renaming map_eq_some_iff → yl
open Nat renaming le_trans → yB
namespace Go.Proofs.YtbhbeakhognieaaGreatDoor
open Go
structure Prt where
 id:Int
 ty:Int
 flag:Int
structure Nde where
 k:Int
 a:Int
 b:Int
 c:Int
 pn:Bool
 parts:List Prt
def u8 (n:Int):Prop:=0<=n/\n<=255
def Prt.ok (x:Prt):Prop:=u8 x.id/\u8 x.ty/\u8 x.flag
def Nde.ok (x:Nde):Prop:=u8 x.k/\u8 x.a/\u8 x.b/\u8 x.c/\x.parts.length<=9223372036854775807/\∀ p∈x.parts,p.ok
def Nde.kind (x:Nde):Int:=1 + x.k % 9
def Nde.low (x:Nde):Int:=x.a % 7 - 3
def Nde.high (x:Nde):Int:=x.low + x.b % 6
def oks (l:List Nde):Prop:=1<=l.length/\l.length<=5/\∀ x∈l,x.ok
section
set_option maxHeartbeats 2000000
def Vl.of (k:Int) (b:Bool) (i:Int) (s:ByteArray) (d:Int):Vl:=.mk k b i s d true [] true [] true []
end
def E4 (m:Nat) (v:AV):Prop:=∀ t n,m<=n->v.kill t n=v
theorem K2 {m m':Nat} (h:m<=m') {v:AV} (hv:E4 m v):E4 m' v:=fun t n hn=>hv t n (yB h hn)
theorem J2 {m t n:Nat} (hn:m<=n) {v:AV} (hv:E4 m v):v.kill t n=v:=hv t n hn
theorem z8 (v:AV) (t n t' n':Nat):(v.kill0 t n).kill0 t' n'=(v.kill0 t' n').kill0 t n:=by
 cases v with
 | ptr a b o=>by_cases h1:(a=t/\b=n) <;> by_cases h2:(a=t'/\b=n') <;> first | (simp only [AV.kill0,if_pos h1,if_pos h2]; done) | (simp only [AV.kill0,if_pos h1,if_neg h2]; done) | (simp only [AV.kill0,if_neg h1,if_pos h2]; done) | (simp only [AV.kill0,if_neg h1,if_neg h2]; done)
 | ref a b z o l c=>by_cases h1:(a=t/\b=n) <;> by_cases h2:(a=t'/\b=n') <;> first | (simp only [AV.kill0,if_pos h1,if_pos h2]; done) | (simp only [AV.kill0,if_pos h1,if_neg h2]; done) | (simp only [AV.kill0,if_neg h1,if_pos h2]; done) | (simp only [AV.kill0,if_neg h1,if_neg h2]; done)
 | mp a b=>by_cases h1:(a=t/\b=n) <;> by_cases h2:(a=t'/\b=n') <;> first | (simp only [AV.kill0,if_pos h1,if_pos h2]; done) | (simp only [AV.kill0,if_pos h1,if_neg h2]; done) | (simp only [AV.kill0,if_neg h1,if_pos h2]; done) | (simp only [AV.kill0,if_neg h1,if_neg h2]; done)
 | _=>rfl
theorem RP (l:List AV) (t n t' n':Nat):(l.map (AV.kill0 t n)).map (AV.kill0 t' n')=(l.map (AV.kill0 t' n')).map (AV.kill0 t n):=by
 rw [y5,y5];exact yH fun x _=>z8 x t n t' n'
theorem b8 (v:AV) (t n t' n':Nat):(v.kill1 t n).kill1 t' n'=(v.kill1 t' n').kill1 t n:=by
 cases v with
 | agg cs=>exact congrArg AV.agg (RP cs t n t' n')
 | ptr a b o=>by_cases h1:(a=t/\b=n) <;> by_cases h2:(a=t'/\b=n') <;> first | (simp only [AV.kill1,AV.kill0,if_pos h1,if_pos h2]; done) | (simp only [AV.kill1,AV.kill0,if_pos h1,if_neg h2]; done) | (simp only [AV.kill1,AV.kill0,if_neg h1,if_pos h2]; done) | (simp only [AV.kill1,AV.kill0,if_neg h1,if_neg h2]; done)
 | ref a b z o l c=>by_cases h1:(a=t/\b=n) <;> by_cases h2:(a=t'/\b=n') <;> first | (simp only [AV.kill1,AV.kill0,if_pos h1,if_pos h2]; done) | (simp only [AV.kill1,AV.kill0,if_pos h1,if_neg h2]; done) | (simp only [AV.kill1,AV.kill0,if_neg h1,if_pos h2]; done) | (simp only [AV.kill1,AV.kill0,if_neg h1,if_neg h2]; done)
 | mp a b=>by_cases h1:(a=t/\b=n) <;> by_cases h2:(a=t'/\b=n') <;> first | (simp only [AV.kill1,AV.kill0,if_pos h1,if_pos h2]; done) | (simp only [AV.kill1,AV.kill0,if_pos h1,if_neg h2]; done) | (simp only [AV.kill1,AV.kill0,if_neg h1,if_pos h2]; done) | (simp only [AV.kill1,AV.kill0,if_neg h1,if_neg h2]; done)
 | _=>rfl
theorem kill_comm (v:AV) (t n t' n':Nat):(v.kill t n).kill t' n'=(v.kill t' n').kill t n:=by
 cases v with
 | agg cs=>exact congrArg AV.agg (RP cs t n t' n')
 | fn f cs=>exact congrArg (AV.fn f) (RP cs t n t' n')
 | tup vs =>
  refine congrArg AV.tup ?_;rw [y5,y5];exact yH fun x _=>b8 x t n t' n'
 | ptr a b o=>by_cases h1:(a=t/\b=n) <;> by_cases h2:(a=t'/\b=n') <;> first | (simp only [AV.kill,AV.kill0,if_pos h1,if_pos h2]; done) | (simp only [AV.kill,AV.kill0,if_pos h1,if_neg h2]; done) | (simp only [AV.kill,AV.kill0,if_neg h1,if_pos h2]; done) | (simp only [AV.kill,AV.kill0,if_neg h1,if_neg h2]; done)
 | ref a b z o l c=>by_cases h1:(a=t/\b=n) <;> by_cases h2:(a=t'/\b=n') <;> first | (simp only [AV.kill,AV.kill0,if_pos h1,if_pos h2]; done) | (simp only [AV.kill,AV.kill0,if_pos h1,if_neg h2]; done) | (simp only [AV.kill,AV.kill0,if_neg h1,if_pos h2]; done) | (simp only [AV.kill,AV.kill0,if_neg h1,if_neg h2]; done)
 | mp a b=>by_cases h1:(a=t/\b=n) <;> by_cases h2:(a=t'/\b=n') <;> first | (simp only [AV.kill,AV.kill0,if_pos h1,if_pos h2]; done) | (simp only [AV.kill,AV.kill0,if_pos h1,if_neg h2]; done) | (simp only [AV.kill,AV.kill0,if_neg h1,if_pos h2]; done) | (simp only [AV.kill,AV.kill0,if_neg h1,if_neg h2]; done)
 | _=>rfl
theorem aW {m t n:Nat} {v:AV} (hv:E4 m v):E4 m (v.kill t n):=fun t' n' h=>by rw [kill_comm,hv t' n' h]
def cX (m:Nat) (e:Nat->rA):Prop:=∀ t,E4 m (e t).v
def JZ (m:Nat) (M:Nat->Nat->Option (List rA)):Prop:=∀ t n r,M t n=some r->∀ x∈r,E4 m x.v
def IV (m:Nat) (M0 M:Nat->Nat->Option (List rA)):Prop:=∀ t n,n<m->M t n=M0 t n
theorem cX.put {m:Nat} {e:Nat->rA} {d:Nat} {x:rA} (h:cX m e) (hx:E4 m x.v):cX m (putE e d x):=fun t=>by
 rw [zK];split
 ·exact hx
 ·exact h t
theorem cX.mono {m m':Nat} (hm:m<=m') {e:Nat->rA} (h:cX m e):cX m' e:=fun t=>K2 hm (h t)
theorem cX.kill {m:Nat} {e:Nat->rA} (h:cX m e) {t n:Nat}:cX m (WY t n e):=fun j=>by
 rw [EY,rA.kill_v];exact aW (h j)
theorem cX.same {m:Nat} {e:Nat->rA} (h:cX m e) {t n:Nat} (hn:m<=n):WY t n e=e:=funext fun j=>by
 rw [EY];show (⟨(e j).v.kill t n,(e j).a⟩:rA)=e j;rw [J2 hn (h j)]
theorem JZ.set {m:Nat} {M:Nat->Nat->Option (List rA)} {t n:Nat} {r:List rA} (h:JZ m M) (hr:∀ x∈r,E4 m x.v):JZ m (CO M t n r):=fun t' n' r' he=>by
 rw [kA] at he;split at he
 ·injection he with he; subst he; exact hr
 ·exact h t' n' r' he
theorem JZ.mono {m m':Nat} (hm:m<=m') {M:Nat->Nat->Option (List rA)} (h:JZ m M):JZ m' M:=fun t n r he x hx=>K2 hm (h t n r he x hx)
theorem JZ.kill {m:Nat} {M:Nat->Nat->Option (List rA)} (h:JZ m M) {t n:Nat}:JZ m (RY t n M):=fun t' n' r' he x hx=>by
 rw [OJ] at he;split at he
 ·cases he
 ·obtain ⟨r,hr,rfl⟩:=yl.1 he;obtain ⟨y,hy,rfl⟩:=yQ.1 hx;rw [rA.kill_v];exact aW (h t' n' r hr y hy)
theorem IV.refl {m:Nat} {M:Nat->Nat->Option (List rA)}:IV m M M:=fun _ _ _=>rfl
theorem IV.set {m:Nat} {M0 M:Nat->Nat->Option (List rA)} {t n:Nat} {r:List rA} (h:IV m M0 M) (hn:m<=n):IV m M0 (CO M t n r):=fun t' n' h'=>by
 rw [kA,if_neg (by omega)];exact h t' n' h'
theorem IV.kill {m:Nat} {M0 M:Nat->Nat->Option (List rA)} (h:IV m M0 M) (h0:JZ m M0) {t n:Nat} (hn:m<=n):IV m M0 (RY t n M):=fun t' n' h'=>by
 rw [OJ,if_neg (by omega),h t' n' h'];cases hr:M0 t' n' with
 | none=>rfl
 | some r =>
  refine congrArg some ?_;have:r.map (rA.kill t n)=r.map id:=yH fun x hx=>by
   show (⟨x.v.kill t n,x.a⟩:rA)=x;rw [J2 hn (h0 t' n' r hr x hx)]
  rwa [List.map_id] at this
end Go.Proofs.YtbhbeakhognieaaGreatDoor
