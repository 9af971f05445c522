/- A part of the proof. -/
import Derived.Test.YtjoaiabjebpbjaaGreatSj
import Derived.Test.YtjoaiabjebpbjaaGreatSl
import Derived.Test.YtjoaiabjebpbjaaGreatSm
set_option linter.all false
set_option maxRecDepth 100000
set_option maxHeartbeats 8000000
open Option renaming bind_some → V
open List renaming range_succ → J, map_map → y0
open Int renaming toNat_lt → y3
namespace Go.Proofs.YtjoaiabjebpbjaaGreat
open Go
theorem vequal_ev:∀ (n:Nat) (v w:Vl),SizeOf.sizeOf v<n->v.ok->sA 127 [.agg (pA v),.agg (pA w)] (.bool (v.same w)):=by
 intro n
 induction n with
 | zero=>intro v w h; omega
 | succ n ih =>
  intro v w hn hv;rw [Vl.ok_def] at hv;obtain ⟨o1,o2,o3,o4,o5,o6⟩:=hv;have hr:=raws_ev v.rest w.rest o3 v.rn w.rn;have ck:=C4 127 v.keys w.keys o1 (fun x hx y _=>ih x y (by have:=Vl.keys_lt v x hx; omega) (o5 x hx)) v.kn w.kn;have ze:=C4 127 v.items w.items o2 (fun x hx y _=>ih x y (by have:=Vl.items_lt v x hx; omega) (o6 x hx)) v.xn w.xn;simp only [sA] at hr ck ze;refine wA (c:=iD) rfl rfl ?_;rw [qA,qA,Vl.same_def];by_cases h1:v.kind=w.kind
  ·by_cases h2:v.b=w.b
   ·by_cases h3:v.i=w.i
    ·by_cases h4:v.s=w.s
     ·by_cases h5:v.id=w.id
      ·by_cases h6:v.rest=w.rest
       ·cases h7:Vl.sames v.keys w.keys with
        | true=>rw [h7] at ck; simp [iD,-V,-y3,-y0,J,h1,h2,h3,h4,h5,h6 ▸ hr,h6,gG,JD,ck,ze,h7]
        | false=>rw [h7] at ck; simp [iD,-V,-y3,-y0,J,h1,h2,h3,h4,h5,h6 ▸ hr,h6,gG,JD,ck,h7]
       ·simp [iD,-V,-y3,-y0,J,h1,h2,h3,h4,h5,hr,h6]
      ·simp [iD,-V,-y3,-y0,J,h1,h2,h3,h4,h5]
     ·simp [iD,-V,-y3,-y0,J,h1,h2,h3,h4]
    ·simp [iD,-V,-y3,-y0,J,h1,h2,h3]
   ·simp [iD,-V,-y3,-y0,J,h1,h2]
  ·simp [iD,-V,-y3,-y0,J,h1]
theorem pS (v w:Vl) (hv:v.ok):sA 36 [.agg (pA v),.agg (pA w)] (.bool (v.same w)):=by
 have h:=HT _ v w (Nat.lt_succ_self _) hv;refine wA (c:=qL) rfl rfl ?_;simp only [sA,qA] at h ⊢;simp [qL,-V,-y3,-y0,J,h]
end Go.Proofs.YtjoaiabjebpbjaaGreat
