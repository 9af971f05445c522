/- EvolveFormat's card. -/
import Derived.Test.YtbhbeakhognieaaGreatDoorVn
set_option linter.all false
open List renaming all_eq_true → y5
namespace Go.Proofs.YtbhbeakhognieaaGreatDoor
open Go
set_option maxRecDepth 100000
theorem evolveFormat_card:Rows.EvolveFormatCardSaid :=
 Claim7.holds_tied_plain_at .later [] [.data,.data,.data] true (true,"a8eaa174776034f2bd19ed976f09f19261b4b6318555334c3f2ed8cdc80dfc63") false
  zK (fun _ h=>by cases h) (by kernel_rfl) (fun _ h=>by cases h) evolveFormat_row_tie rfl ⟨rfl,rfl⟩ (by kernel_rfl) rfl
  (fun f fn hf bh=>by
   obtain rfl:f=7:=Option.some.inj ((show Tryz.prog.funcNamed "sheave/sheavelaw23.EvolveFormat"=some 7 by kernel_rfl).symm.trans hf) |>.symm;obtain rfl:fn=Tryz.f7:=(Option.some.inj (Tryz.func7.symm.trans bh)).symm;exact ⟨by kernel_rfl,fun j t ht=>by
    rw [Tryz.params7] at ht;have hm:t∈[52]:=by simpa using Array.mem_of_getElem? ht
    have nb:([52].all fun u=>!Tryz.prog.wantsStandIn u)=true:=by kernel_rfl
    exact (show Tryz.prog.wantsStandIn t=false by simpa using y5.1 nb t hm)⟩)
  (by kernel_rfl)
end Go.Proofs.YtbhbeakhognieaaGreatDoor
