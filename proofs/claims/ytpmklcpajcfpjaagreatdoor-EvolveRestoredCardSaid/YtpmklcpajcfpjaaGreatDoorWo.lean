/- A part of the proof. -/
import Derived.Test.YtpmklcpajcfpjaaGreatDoorWi
import Derived.Test.YtpmklcpajcfpjaaGreatDoorWk
import Derived.Test.YtpmklcpajcfpjaaGreatDoorWl
set_option linter.all false
set_option maxRecDepth 100000
set_option maxHeartbeats 8000000
open Option renaming bind_some → J
open List renaming range_succ → y0, map_map → y9
open Int renaming toNat_lt → yb
namespace Go.Proofs.YtpmklcpajcfpjaaGreatDoor
open Go
theorem Gf:∀(n:Nat)(v w:Vl),SizeOf.sizeOf v<n->v.ok->BD 84 [.agg (WE v),.agg (WE w)] (.bool (v.same w)):=by
 intro n
 induction n with
 |zero=>intro v w h;omega
 |succ n ih =>
  intro v w hn hv;rw[Vl.WB]at hv;obtain⟨o1,o2,o3,o4,o5,o6⟩:=hv;have hr:=Bi v.rest w.rest o3 v.rn w.rn;have af:=K5 84 v.keys w.keys o1 (fun x hx y _=>ih x y (by have:=Vl.ZB v x hx;omega) (o5 x hx)) v.kn w.kn;have oc:=K5 84 v.items w.items o2 (fun x hx y _=>ih x y (by have:=Vl.OB v x hx;omega) (o6 x hx)) v.xn w.xn;simp only[BD]at hr af oc;refine tD (c:=SF) rfl rfl ?_;rw[EF,EF,Vl.wC];by_cases h1:v.kind=w.kind
  ·by_cases h2:v.b=w.b
   ·by_cases h3:v.i=w.i
    ·by_cases h4:v.s=w.s
     ·by_cases h5:v.id=w.id
      ·by_cases h6:v.rest=w.rest
       ·cases h7:Vl.jA v.keys w.keys with
        |true=>rw[h7]at af;simp[SF,-J,-yb,-y9,y0,h1,h2,h3,h4,h5,h6▸hr,h6,tI,gG,af,oc,h7]
        |false=>rw[h7]at af;simp[SF,-J,-yb,-y9,y0,h1,h2,h3,h4,h5,h6▸hr,h6,tI,gG,af,h7]
       ·simp[SF,-J,-yb,-y9,y0,h1,h2,h3,h4,h5,hr,h6]
      ·simp[SF,-J,-yb,-y9,y0,h1,h2,h3,h4,h5]
     ·simp[SF,-J,-yb,-y9,y0,h1,h2,h3,h4]
    ·simp[SF,-J,-yb,-y9,y0,h1,h2,h3]
   ·simp[SF,-J,-yb,-y9,y0,h1,h2]
  ·simp[SF,-J,-yb,-y9,y0,h1]
end Go.Proofs.YtpmklcpajcfpjaaGreatDoor
