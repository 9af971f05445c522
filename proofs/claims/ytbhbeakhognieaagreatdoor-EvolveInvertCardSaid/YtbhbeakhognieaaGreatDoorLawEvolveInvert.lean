/- EvolveInvert's card. -/
import Derived.Test.YtbhbeakhognieaaGreatDoorWq
set_option linter.all false
open List renaming all_eq_true → y8
namespace Go.Proofs.YtbhbeakhognieaaGreatDoor
open Go
set_option maxRecDepth 100000
theorem evolveInvert_card:Rows.EvolveInvertCardSaid :=
 Claim7.holds_tied_plain_at .later [] [.data,.data,.data] true (true,"a8eaa174776034f2bd19ed976f09f19261b4b6318555334c3f2ed8cdc80dfc63") false
  mR (fun _ h=>by cases h) (by kernel_rfl) (fun _ h=>by cases h) evolveInvert_row_tie rfl ⟨rfl,rfl⟩ (by kernel_rfl) rfl
  (fun f fn hf om=>by
   obtain rfl:f=10:=Option.some.inj ((show Tryz.prog.funcNamed "sheave/sheavelaw23.EvolveInvert"=some 10 by kernel_rfl).symm.trans hf) |>.symm;obtain rfl:fn=Tryz.f10:=(Option.some.inj (Tryz.func10.symm.trans om)).symm;exact ⟨by kernel_rfl,fun j t ht=>by
    rw [Tryz.params10] at ht;have hm:t∈[24,25]:=by simpa using Array.mem_of_getElem? ht
    have bc:([24,25].all fun u=>!Tryz.prog.wantsStandIn u)=true:=by kernel_rfl
    exact (show Tryz.prog.wantsStandIn t=false by simpa using y8.1 bc t hm)⟩)
  (by kernel_rfl)
end Go.Proofs.YtbhbeakhognieaaGreatDoor
