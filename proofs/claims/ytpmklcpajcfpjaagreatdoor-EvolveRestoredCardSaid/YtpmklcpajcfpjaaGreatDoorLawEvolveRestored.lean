/- EvolveRestored's card. -/
import Derived.Test.YtpmklcpajcfpjaaGreatDoorWq
set_option linter.all false
open List renaming all_eq_true → ye
namespace Go.Proofs.YtpmklcpajcfpjaaGreatDoor
open Go
set_option maxRecDepth 100000
theorem evolveRestored_card:Rows.EvolveRestoredCardSaid :=
 Claim7.holds_tied_plain_at .later [] [.data,.data,.data] true (true,"e407ba1f70d44a100aa49203213353b0586d06d2ff1ab830be03ff78034bcf98") false
  dS (fun _ h=>by cases h) (by kernel_rfl) (fun _ h=>by cases h) evolveRestored_row_tie rfl ⟨rfl,rfl⟩ (by kernel_rfl) rfl
  (fun f fn hf xo=>by
   obtain rfl:f=3:=Option.some.inj ((show Tryz.prog.funcNamed "sheave/sheavelaw23.EvolveRestored"=some 3 by kernel_rfl).symm.trans hf) |>.symm;obtain rfl:fn=Tryz.f3:=(Option.some.inj (Tryz.func3.symm.trans xo)).symm;exact ⟨by kernel_rfl,fun j t ht=>by
    rw [Tryz.params3] at ht;have hm:t∈[24,25]:=by simpa using Array.mem_of_getElem? ht
    have nb:([24,25].all fun u=>!Tryz.prog.wantsStandIn u)=true:=by kernel_rfl
    exact (show Tryz.prog.wantsStandIn t=false by simpa using ye.1 nb t hm)⟩)
  (by kernel_rfl)
end Go.Proofs.YtpmklcpajcfpjaaGreatDoor
