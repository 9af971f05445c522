/- A part of the proof. -/
import Derived.Test.YtbnlmgncbgaepaaGreatXz
import Derived.Test.YtbnlmgncbgaepaaGreatXl
set_option linter.all false
set_option maxRecDepth 100000
set_option maxHeartbeats 8000000
open Option renaming bind_some → V
open List renaming range_succ → J, map_map → y0, getElem_mem → y6, drop_eq_getElem_cons → yb, drop_eq_nil_of_le → ye
open Int renaming toNat_lt → y3
open Nat renaming le_refl → ym
namespace Go.Proofs.YtbnlmgncbgaepaaGreat
open Go

structure dV (s s':aA):Prop where
 gh:s'.gh=s.gh
 nx:s.next<=s'.next
 old:∀ t n,n<s.next->s'.mem t n=s.mem t n
theorem dV.refl (s:aA):dV s s:=⟨rfl,ym _,fun _ _ _=>rfl⟩
theorem gidx_ev {rv:RV} (l:List Pr) (hl:l.length<=2000) (p:Pr->Bool) (F:Nat) (cs:List AV) (b:Bool) {a1 a2:An} {s0:aA} (hF:∀ q∈l,∀ s k a,s0.next<=s.next->(∀ t n,n<s0.next->s.mem t n=s0.mem t n)->(∀ y s',y.v=.bool (p q)->dV s s'->k y s'=some rv)->H3 jA rA F (⟨.agg (XA q),a⟩ :: cs.map (⟨·,.no⟩)) s k=some rv) (k:qA->aA->Option RV)
  (hk:∀ y s',y.v=.int .i64 (cB p l)->dV s0 s'->k y s'=some rv):H3 jA rA 94 [⟨.sl b (l.map XA),a1⟩,⟨.fn F cs,a2⟩] s0 k=some rv:=by
 refine sK PD rfl rfl ?_;simp [PD,-V,-y3,-y0,J];refine xA l.length (fun i s=>(s.env 0).v=.sl b (l.map XA)/\(s.env 1).v=.fn F cs/\(s.env 7).v=.int .i64 l.length/\(s.env 8).v=.int .i64 i/\dV s0 s/\cB p l=(if cB p (l.drop i)=-1 then -1 else cB p (l.drop i) + i))
  (fun e s=>dV s0 s/\((e=.exit 0/\cB p l=-1)\/(e=.ret/\(s.env 4).v=.int .i64 (cB p l)))) (fun i hi s k h ih hk=>?_) _ _ ?_ (fun e s h=>?_)
 ·obtain ⟨e0,e1,e7,e8,⟨q1,q2,q3⟩,hs⟩:=h;refine tA ?_;by_cases da:i<l.length
  ·have fa:(i:Int)<l.length:=by omega
   have g1:(l.map XA)[i]?=some (XA l[i]):=by simp [da]
   have hw:=ZA (i:=i);have hx:=hF l[i] (y6 _);rw [yb da] at hs;generalize l[i]=x at *
   simp only [XA] at g1 hx;simp [zE,-V,-y3,-y0,J,e0,e1,e7,e8,fa,g1];refine hx _ _ _ ?_ ?_ (fun y s' hy hq=>?_)
   ·dsimp only; omega
   ·intro t n hn; exact q3 t n hn
   ·obtain ⟨r1,r2,r3⟩:=hq;dsimp only at r1 r2 r3;cases hp:p x with
    | true =>
     rw [hp] at hy;simp [-V,-y3,-y0,J,hy,r1];refine hk _ _ ⟨⟨q1,by dsimp only; omega,fun t n hn=>(r3 t n (by omega)).trans (q3 t n hn)⟩,.inr ⟨rfl,?_⟩⟩;simp [hs,cB,hp]
    | false =>
     rw [hp] at hy;simp [-V,-y3,-y0,J,hy,r1,e8,hw];refine ih da _ ⟨?_,?_,?_,?_,⟨q1,by dsimp only; omega,fun t n hn=>(r3 t n (by omega)).trans (q3 t n hn)⟩,?_⟩
     ·simp [e0]
     ·simp [e1]
     ·simp [e7]
     ·simp
     ·rw [hs,gK p x _ hp];have:=WE p (l.drop (i + 1));by_cases h1:cB p (l.drop (i + 1))=-1
      ·simp [h1]
      ·have h2:¬ cB p (l.drop (i + 1)) + 1=-1:=by omega
       rw [if_neg h1,if_neg h2,if_neg h1];omega
  ·have fa:¬ (i:Int)<l.length:=by omega
   simp [zE,-V,-y3,-y0,J,e7,e8,fa];rw [ye (by omega)] at hs;exact hk _ _ ⟨⟨q1,by dsimp only; omega,q3⟩,.inl ⟨rfl,hs⟩⟩
 ·have:=WE p l;refine ⟨?_,?_,?_,?_,⟨rfl,by dsimp only; omega,fun t n hn=>rfl⟩,?_⟩
  ·simp
  ·simp
  ·simp
  ·simp
  ·by_cases h1:cB p l=-1 <;> simp [h1]
 ·obtain ⟨hq,⟨rfl,h1⟩ | ⟨rfl,h1⟩⟩:=h
  ·simp [-V,-y3,-y0,J,WM,kQ,AN];exact hk _ _ (by simp [h1]) ⟨hq.gh,by have:=hq.nx; dsimp only; omega,hq.old⟩
  ·simp [WM,kQ,AN];exact hk _ _ h1 hq
end Go.Proofs.YtbnlmgncbgaepaaGreat
