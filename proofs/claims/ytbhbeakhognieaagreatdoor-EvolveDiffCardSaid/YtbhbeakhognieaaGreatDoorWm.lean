/- A part of the proof. -/
import Derived.Test.YtbhbeakhognieaaGreatDoorWi
import Derived.Test.YtbhbeakhognieaaGreatDoorWk
import Derived.Test.YtbhbeakhognieaaGreatDoorWl
set_option linter.all false
set_option maxRecDepth 100000
set_option maxHeartbeats 8000000
open Option renaming bind_some → J
open List renaming range_succ → y0, map_map → y5
open Int renaming toNat_lt → y6
namespace Go.Proofs.YtbhbeakhognieaaGreatDoor
open Go
theorem o8:∀ (n:Nat) (v w:Vl),SizeOf.sizeOf v<n->v.ok->wB 120 [.agg (eB v),.agg (eB w)] (.bool (v.same w)):=by
 intro n
 induction n with
 | zero=>intro v w h; omega
 | succ n ih =>
  intro v w hn hv;rw [Vl.ok_def] at hv;obtain ⟨o1,o2,o3,o4,o5,o6⟩:=hv;have hr:=s6 v.rest w.rest o3 v.rn w.rn;have oi:=OX 120 v.keys w.keys o1 (fun x hx y _=>ih x y (by have:=Vl.keys_lt v x hx; omega) (o5 x hx)) v.kn w.kn;have ec:=OX 120 v.items w.items o2 (fun x hx y _=>ih x y (by have:=Vl.items_lt v x hx; omega) (o6 x hx)) v.xn w.xn;simp only [wB] at hr oi ec;refine cA (c:=iC) rfl rfl ?_;rw [dB,dB,Vl.same_def];by_cases h1:v.kind=w.kind
  ·by_cases h2:v.b=w.b
   ·by_cases h3:v.i=w.i
    ·by_cases h4:v.s=w.s
     ·by_cases h5:v.id=w.id
      ·by_cases h6:v.rest=w.rest
       ·cases h7:Vl.sames v.keys w.keys with
        | true=>rw [h7] at oi; simp [iC,-J,-y6,-y5,y0,h1,h2,h3,h4,h5,h6 ▸ hr,h6,SD,UC,oi,ec,h7]
        | false=>rw [h7] at oi; simp [iC,-J,-y6,-y5,y0,h1,h2,h3,h4,h5,h6 ▸ hr,h6,SD,UC,oi,h7]
       ·simp [iC,-J,-y6,-y5,y0,h1,h2,h3,h4,h5,hr,h6]
      ·simp [iC,-J,-y6,-y5,y0,h1,h2,h3,h4,h5]
     ·simp [iC,-J,-y6,-y5,y0,h1,h2,h3,h4]
    ·simp [iC,-J,-y6,-y5,y0,h1,h2,h3]
   ·simp [iC,-J,-y6,-y5,y0,h1,h2]
  ·simp [iC,-J,-y6,-y5,y0,h1]
end Go.Proofs.YtbhbeakhognieaaGreatDoor
