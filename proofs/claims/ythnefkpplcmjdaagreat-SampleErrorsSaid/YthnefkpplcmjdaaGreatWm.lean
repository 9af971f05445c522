/- A part of the proof. -/
import Derived.Test.YthnefkpplcmjdaaGreatWi
import Derived.Test.YthnefkpplcmjdaaGreatWk
import Derived.Test.YthnefkpplcmjdaaGreatWl
set_option linter.all false
set_option maxRecDepth 100000
set_option maxHeartbeats 8000000
open Option renaming bind_some → J
open List renaming range_succ → y0, map_map → y3
open Int renaming toNat_lt → y4
namespace Go.Proofs.YthnefkpplcmjdaaGreat
open Go
theorem Mp:∀(n:Nat)(v w:Vl),SizeOf.sizeOf v<n->v.ok->IC 178 [.agg (TC v),.agg (TC w)] (.bool (v.same w)):=by
 intro n
 induction n with
 |zero=>intro v w h;omega
 |succ n ih =>
  intro v w hn hv;rw[Vl.NA]at hv;obtain⟨o1,o2,o3,o4,o5,o6⟩:=hv;have hr:=Ut v.rest w.rest o3 v.rn w.rn;have fj:=Q5 178 v.keys w.keys o1 (fun x hx y _=>ih x y (by have:=Vl.xA v x hx;omega) (o5 x hx)) v.kn w.kn;have kc:=Q5 178 v.items w.items o2 (fun x hx y _=>ih x y (by have:=Vl.jA v x hx;omega) (o6 x hx)) v.xn w.xn;simp only[IC]at hr fj kc;refine mC (c:=iF) rfl rfl ?_;rw[nC,nC,Vl.fB];by_cases h1:v.kind=w.kind
  ·by_cases h2:v.b=w.b
   ·by_cases h3:v.i=w.i
    ·by_cases h4:v.s=w.s
     ·by_cases h5:v.id=w.id
      ·by_cases h6:v.rest=w.rest
       ·cases h7:Vl.fA v.keys w.keys with
        |true=>rw[h7]at fj;simp[iF,-J,-y4,-y3,y0,h1,h2,h3,h4,h5,h6▸hr,h6,qI,KF,fj,kc,h7]
        |false=>rw[h7]at fj;simp[iF,-J,-y4,-y3,y0,h1,h2,h3,h4,h5,h6▸hr,h6,qI,KF,fj,h7]
       ·simp[iF,-J,-y4,-y3,y0,h1,h2,h3,h4,h5,hr,h6]
      ·simp[iF,-J,-y4,-y3,y0,h1,h2,h3,h4,h5]
     ·simp[iF,-J,-y4,-y3,y0,h1,h2,h3,h4]
    ·simp[iF,-J,-y4,-y3,y0,h1,h2,h3]
   ·simp[iF,-J,-y4,-y3,y0,h1,h2]
  ·simp[iF,-J,-y4,-y3,y0,h1]
end Go.Proofs.YthnefkpplcmjdaaGreat
