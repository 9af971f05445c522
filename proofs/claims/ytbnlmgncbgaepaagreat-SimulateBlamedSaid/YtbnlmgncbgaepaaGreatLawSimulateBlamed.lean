/- sheavelaw20.SimulateBlamed: for every input it returns true and leaves its input as it was. No condition. -/
import Derived.Test.YtbnlmgncbgaepaaGreatUu
set_option linter.all false
open List renaming all_eq_true → y7
open Array renaming toArray_toList → yW
namespace Go.Proofs.YtbnlmgncbgaepaaGreat
open Go Go.RowKit Go.ChangeShapes Go.WideShapes Go.ChangeAt
theorem ok_law_SimulateBlamed:FnOk Tryz.prog 8 q0U:=okF Tryz.func8
set_option maxRecDepth 100000 in
theorem simulateBlamed_lifted (os:Os) (started:os.Started) (H:Type) (enc:TypeId × Value->H) :
  ReturnsInHanded {} Tryz.checked os 8 .any (Rows.simulateBlamedSpec.pre6 enc Tryz.prog Tryz.f8 Rows.simulateBlamedRow.domain false) (Rows.simulateBlamedSpec.post enc Tryz.prog Tryz.f8 false true false false):=by
 refine returnsInHanded_of_change_sized (C:=Tryz.checked) own started (by kernel_rfl) Tryz.func8
  (ChangeSpec.witness6 (enc:=enc) (C:=Tryz.checked) false ⟨#[],#[.agg #[.slice none 0 0,.slice none 0 0,.int .u8 0,.int .u8 0]],[]⟩ 8 (by kernel_rfl) (by kernel_rfl) (by kernel_rfl) (by kernel_rfl)) ?_
 intro W base args ds gs before jv hW eJ ic _;have uj:∀ (j:Nat) t v,Tryz.f8.params[j]?=some t->args[j]?=some v->Value.okWide Tryz.prog W .any base t v:=jv;have uI:=hW;obtain ⟨p,q,gl,hV,rfl,lQ,iC⟩:=hW;have hA:DataW.TrodAll enc Tryz.prog W 0 (fun _=>true) true Tryz.f8.params.toList args.toList ds p:=gl;rw [Tryz.params8] at hA uj;have wz:DataW.TrodAll enc Tryz.prog W 0 (fun _=>true) true [27] args.toList ds p:=hA;have hd:∃ d0,ds=[d0]:=by
  obtain ⟨_,_,d0,_,_,_,_,rfl,_,_,r0⟩:=trodAll_cons wz;obtain ⟨_,rfl,_⟩:=trodAll_nil r0;exact ⟨d0,rfl⟩
 obtain ⟨d0,rfl⟩:=hd;obtain ⟨xs,hx,tb⟩:=args_T (T:=caseTs) caseTs_good wz (fun j t v e e'=>uj j t v (by simpa using e) (by simpa using e')) (fun m hm=>of_decide_eq_true (y7.1 ic m (q8e hm rfl))) (by kernel_rfl);simp only [ArgsT] at tb;obtain ⟨a0,_,rfl,t0,rfl⟩:=tb;obtain ⟨dn,l,cn,cs,T,U,rfl,hc⟩:=caseTy t0;obtain ⟨rfl,rfl⟩:=trodVars_none hV;have kA:=blamed20_ev (dn:=dn) (cn:=cn) hc;have hC:=(ev_sound mixed allT_ok (bldExt_ok (O:=noObjs.of)) kA).2 Av0 W args.toList (fun _ _ h=>h.elim) hx;rw [yW] at hC;refine hC.mono fun e W' ⟨v,he,hv,hb⟩=>?_
 have kB:v=.bool true:=hv;subst he;subst kB;exact ⟨_,rfl,q9s (pa:=p) (pv:=[]) uI (fun _ _ _=>trodAll_cons_mk (shut_bool Tryz.underlying4 _) trodAll_mk0) (args_back laidOut hb wz (by kernel_rfl)) rfl hb⟩
theorem simulateBlamed_j0:joinA Tryz.pinned.checked.prog 8 Tryz.f8 Rows.simulateBlamedSpec Rows.simulateBlamedRow=true:=by kernel_rfl
theorem simulateBlamed_j1:joinB Tryz.pinned.checked.prog 8 Tryz.f8 Rows.simulateBlamedSpec Rows.simulateBlamedRow=true:=by kernel_rfl
theorem simulateBlamed_j2:joinC Tryz.pinned.checked.prog 8 Tryz.f8 Rows.simulateBlamedSpec Rows.simulateBlamedRow=true:=by kernel_rfl
theorem simulateBlamed_j3:joinD Tryz.pinned.checked.prog 8 Tryz.f8 Rows.simulateBlamedSpec Rows.simulateBlamedRow=true:=by kernel_rfl
theorem simulateBlamed_j4:joinE Tryz.pinned.checked.prog 8 Tryz.f8 Rows.simulateBlamedSpec Rows.simulateBlamedRow=true:=by kernel_rfl
theorem simulateBlamed_j5:joinF Tryz.pinned.checked.prog 8 Tryz.f8 Rows.simulateBlamedSpec Rows.simulateBlamedRow=true:=by kernel_rfl
theorem simulateBlamed_j6:joinG Tryz.pinned.checked.prog 8 Tryz.f8 Rows.simulateBlamedSpec Rows.simulateBlamedRow=true:=by kernel_rfl
theorem simulateBlamed_holds:Rows.SimulateBlamedSaid :=
 OpenClaim.holds_of_wide 8 Tryz.f8 rfl rfl rfl rfl rfl rfl rfl ⟨rfl,rfl,rfl,rfl,rfl⟩ rfl rfl rfl rfl rfl (by kernel_rfl) Tryz.func8 (joined_of simulateBlamed_j0 simulateBlamed_j1 simulateBlamed_j2 simulateBlamed_j3 simulateBlamed_j4 simulateBlamed_j5 simulateBlamed_j6)
  (of_decide_eq_true (by kernel_rfl)) (by unfold Func.isWrapper; first | (rw [if_pos (by decide +kernel)]; kernel_rfl) | (rw [if_neg (by decide +kernel)]; exact ⟨rfl,rfl⟩))
  (fun os started H enc _=>simulateBlamed_lifted os started H enc)
end Go.Proofs.YtbnlmgncbgaepaaGreat
