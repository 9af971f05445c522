/- A part of the proof. -/
import Derived.Test.YtbhbeakhognieaaGreatDoorWi
import Derived.Test.YtbhbeakhognieaaGreatDoorWk
import Derived.Test.YtbhbeakhognieaaGreatDoorWl
set_option linter.all false
set_option maxRecDepth 100000
set_option maxHeartbeats 8000000
open Option renaming bind_some → J
open List renaming range_succ → y0, map_map → y5
open Int renaming toNat_lt → y6
namespace Go.Proofs.YtbhbeakhognieaaGreatDoor
open Go
theorem vequal_ev:∀ (n:Nat) (v w:Vl),SizeOf.sizeOf v<n->v.ok->wB 120 [.agg (dB v),.agg (dB w)] (.bool (v.same w)):=by
 intro n
 induction n with
 | zero=>intro v w h; omega
 | succ n ih =>
  intro v w hn hv;rw [Vl.ok_def] at hv;obtain ⟨o1,o2,o3,o4,o5,o6⟩:=hv;have hr:=raws_ev v.rest w.rest o3 v.rn w.rn;have ue:=N3 120 v.keys w.keys o1 (fun x hx y _=>ih x y (by have:=Vl.keys_lt v x hx; omega) (o5 x hx)) v.kn w.kn;have lc:=N3 120 v.items w.items o2 (fun x hx y _=>ih x y (by have:=Vl.items_lt v x hx; omega) (o6 x hx)) v.xn w.xn;simp only [wB] at hr ue lc;refine EA (c:=FC) rfl rfl ?_;rw [WB,WB,Vl.same_def];by_cases h1:v.kind=w.kind
  ·by_cases h2:v.b=w.b
   ·by_cases h3:v.i=w.i
    ·by_cases h4:v.s=w.s
     ·by_cases h5:v.id=w.id
      ·by_cases h6:v.rest=w.rest
       ·cases h7:Vl.sames v.keys w.keys with
        | true=>rw [h7] at ue; simp [FC,-J,-y6,-y5,y0,h1,h2,h3,h4,h5,h6 ▸ hr,h6,ZE,kD,ue,lc,h7]
        | false=>rw [h7] at ue; simp [FC,-J,-y6,-y5,y0,h1,h2,h3,h4,h5,h6 ▸ hr,h6,ZE,kD,ue,h7]
       ·simp [FC,-J,-y6,-y5,y0,h1,h2,h3,h4,h5,hr,h6]
      ·simp [FC,-J,-y6,-y5,y0,h1,h2,h3,h4,h5]
     ·simp [FC,-J,-y6,-y5,y0,h1,h2,h3,h4]
    ·simp [FC,-J,-y6,-y5,y0,h1,h2,h3]
   ·simp [FC,-J,-y6,-y5,y0,h1,h2]
  ·simp [FC,-J,-y6,-y5,y0,h1]
end Go.Proofs.YtbhbeakhognieaaGreatDoor
