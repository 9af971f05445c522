/- sheavelaw20.SimulateLocal: for every input it returns true and leaves its input as it was. No condition. -/
import Derived.Test.YtbnlmgncbgaepaaGreatSf
set_option linter.unusedSimpArgs false
set_option linter.unusedVariables false
set_option linter.unusedSectionVars false
open List renaming all_eq_true → y6
open Array renaming toArray_toList → yV
namespace Go.Proofs.YtbnlmgncbgaepaaGreat
open Go Go.RowKit Go.ChangeShapes Go.WideShapes Go.ChangeAt
theorem ok_law_SimulateLocal:FnOk Tryz.prog 4 q1j:=⟨fun xs w=>by kernel_rfl,_,Tryz.func4,by kernel_rfl⟩
set_option maxRecDepth 100000 in
theorem simulateLocal_lifted (os:Os) (started:os.Started) (H:Type) (enc:TypeId × Value->H) :
  ReturnsInHanded {} Tryz.checked os 4 .any (Rows.simulateLocalSpec.pre6 enc Tryz.prog Tryz.f4 Rows.simulateLocalRow.domain false) (Rows.simulateLocalSpec.post enc Tryz.prog Tryz.f4 false true false false):=by
 refine returnsInHanded_of_change_sized (C:=Tryz.checked) own started (by kernel_rfl) Tryz.func4
  (ChangeSpec.witness6 (enc:=enc) (C:=Tryz.checked) false ⟨#[],#[.agg #[.slice none 0 0,.slice none 0 0,.int .u8 0,.int .u8 0],.int .i64 0,.int .i64 0],[]⟩ 8 (by kernel_rfl) (by kernel_rfl) (by kernel_rfl) (by kernel_rfl)) ?_
 intro W base args ds gs before hval0 hW hcnd hsz _;have hval:∀ (j:Nat) t v,Tryz.f4.params[j]?=some t->args[j]?=some v->Value.okWide Tryz.prog W .any base t v:=hval0;have hW':=hW;obtain ⟨p,q,hA0,hV,rfl,hfz,hnd⟩:=hW;have hA:DataW.TrodAll enc Tryz.prog W 0 (fun _=>true) true Tryz.f4.params.toList args.toList ds p:=hA0;rw [Tryz.params4] at hA hval;have hA1:DataW.TrodAll enc Tryz.prog W 0 (fun _=>true) true [27,3,3] args.toList ds p:=hA;have hd:∃ d0 d1 d2,ds=[d0,d1,d2]:=by
  obtain ⟨_,_,d0,_,_,_,_,rfl,_,_,r0⟩:=trodAll_cons hA1;obtain ⟨_,_,d1,_,_,_,_,rfl,_,_,r1⟩:=trodAll_cons r0;obtain ⟨_,_,d2,_,_,_,_,rfl,_,_,r2⟩:=trodAll_cons r1;obtain ⟨_,rfl,_⟩:=trodAll_nil r2;exact ⟨d0,d1,d2,rfl⟩
 obtain ⟨d0,d1,d2,rfl⟩:=hd;obtain ⟨xs,hx,hty⟩:=args_T (T:=caseTs) caseTs_good hA1 (fun j t v e e'=>hval j t v (by simpa using e) (by simpa using e')) (fun m hm=>of_decide_eq_true (y6.1 hsz m (qat hm rfl))) (by kernel_rfl);simp only [ArgsT] at hty;obtain ⟨a0,_,rfl,t0,a1,_,rfl,t1,a2,_,rfl,t2,rfl⟩:=hty;obtain ⟨dn,l,cn,cs,T,U,rfl,hc⟩:=caseTy t0;obtain ⟨i0,rfl⟩:=intTy t1;obtain ⟨i1,rfl⟩:=intTy t2;obtain ⟨rfl,rfl⟩:=trodVars_none hV;have hev:=local20_ev (dn:=dn) (cn:=cn) hc i0 i1;have hC:=(ev_sound mixed allT_ok (bldExt_ok (O:=noObjs.of)) hev).2 Av0 W args.toList (fun _ _ h=>h.elim) hx;rw [yV] at hC;refine hC.mono fun e W' ⟨v,he,hv,hb⟩=>?_
 have hv':v=.bool true:=hv;subst he;subst hv';exact ⟨_,rfl,post_of_below (pa:=p) (pv:=[]) hW' (fun _ _ _=>trodAll_cons_mk (shut_bool Tryz.underlying4 _) trodAll_mk0) (args_back laidOut hb hA1 (by kernel_rfl)) rfl hb⟩
theorem simulateLocal_j0:joinA Tryz.pinned.checked.prog 4 Tryz.f4 Rows.simulateLocalSpec Rows.simulateLocalRow=true:=by kernel_rfl
theorem simulateLocal_j1:joinB Tryz.pinned.checked.prog 4 Tryz.f4 Rows.simulateLocalSpec Rows.simulateLocalRow=true:=by kernel_rfl
theorem simulateLocal_j2:joinC Tryz.pinned.checked.prog 4 Tryz.f4 Rows.simulateLocalSpec Rows.simulateLocalRow=true:=by kernel_rfl
theorem simulateLocal_j3:joinD Tryz.pinned.checked.prog 4 Tryz.f4 Rows.simulateLocalSpec Rows.simulateLocalRow=true:=by kernel_rfl
theorem simulateLocal_j4:joinE Tryz.pinned.checked.prog 4 Tryz.f4 Rows.simulateLocalSpec Rows.simulateLocalRow=true:=by kernel_rfl
theorem simulateLocal_j5:joinF Tryz.pinned.checked.prog 4 Tryz.f4 Rows.simulateLocalSpec Rows.simulateLocalRow=true:=by kernel_rfl
theorem simulateLocal_j6:joinG Tryz.pinned.checked.prog 4 Tryz.f4 Rows.simulateLocalSpec Rows.simulateLocalRow=true:=by kernel_rfl
theorem simulateLocal_holds:Rows.SimulateLocalSaid :=
 OpenClaim.holds_of_wide 4 Tryz.f4 rfl rfl rfl rfl rfl rfl rfl ⟨rfl,rfl,rfl,rfl,rfl⟩ rfl rfl rfl rfl rfl (by kernel_rfl) Tryz.func4 (joined_of simulateLocal_j0 simulateLocal_j1 simulateLocal_j2 simulateLocal_j3 simulateLocal_j4 simulateLocal_j5 simulateLocal_j6)
  (of_decide_eq_true (by kernel_rfl)) (by unfold Func.isWrapper; first | (rw [if_pos (by decide +kernel)]; kernel_rfl) | (rw [if_neg (by decide +kernel)]; exact ⟨rfl,rfl⟩))
  (fun os started H enc _=>simulateLocal_lifted os started H enc)
end Go.Proofs.YtbnlmgncbgaepaaGreat
