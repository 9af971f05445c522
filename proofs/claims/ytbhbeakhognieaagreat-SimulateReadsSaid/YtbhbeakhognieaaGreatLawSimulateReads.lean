/- sheavelaw20.SimulateReads: for every input it returns true and leaves its input as it was. No condition. -/
import Derived.Test.YtbhbeakhognieaaGreatW4
set_option linter.all false
open List renaming all_eq_true → y6
open Array renaming toArray_toList → yX
namespace Go.Proofs.YtbhbeakhognieaaGreat
open Go Go.RowKit Go.ChangeShapes Go.WideShapes Go.ChangeAt
theorem ok_law_SimulateReads:cA Tryz.prog 5 OB:=okF Tryz.func5
set_option maxRecDepth 100000 in
theorem simulateReads_lifted (os:Os) (started:os.Started) (H:Type) (enc:TypeId × Value->H) :
  ReturnsInHanded {} Tryz.checked os 5 .any (Rows.simulateReadsSpec.pre6 enc Tryz.prog Tryz.f5 Rows.simulateReadsRow.domain false) (Rows.simulateReadsSpec.post enc Tryz.prog Tryz.f5 false true false false):=by
 refine returnsInHanded_of_change_sized (C:=Tryz.checked) own started (by kernel_rfl) Tryz.func5
  (ChangeSpec.witness6 (enc:=enc) (C:=Tryz.checked) false ⟨#[],#[.agg #[.slice none 0 0,.slice none 0 0,.int .u8 0,.int .u8 0],.slice none 0 0],[]⟩ 8 (by kernel_rfl) (by kernel_rfl) (by kernel_rfl) (by kernel_rfl)) ?_
 intro W base args ds gs before hval0 hW hcnd tb _;have ar:∀ (j:Nat) t v,Tryz.f5.params[j]?=some t->args[j]?=some v->Value.okWide Tryz.prog W .any base t v:=hval0;have hW':=hW;obtain ⟨p,q,uo,hV,rfl,hfz,hnd⟩:=hW;have hA:DataW.TrodAll enc Tryz.prog W 0 (fun _=>true) true Tryz.f5.params.toList args.toList ds p:=uo;rw [Tryz.params5] at hA ar;have hA1:DataW.TrodAll enc Tryz.prog W 0 (fun _=>true) true [59,60] args.toList ds p:=hA;have hd:∃ d0 d1,ds=[d0,d1]:=by
  obtain ⟨_,_,d0,_,_,_,_,rfl,_,_,r0⟩:=trodAll_cons hA1;obtain ⟨_,_,d1,_,_,_,_,rfl,_,_,r1⟩:=trodAll_cons r0;obtain ⟨_,rfl,_⟩:=trodAll_nil r1;exact ⟨d0,d1,rfl⟩
 obtain ⟨d0,d1,rfl⟩:=hd;obtain ⟨xs,hx,ub⟩:=args_T (T:=readTs) i8 hA1 (fun j t v e e'=>ar j t v (by simpa using e) (by simpa using e')) (fun m hm=>of_decide_eq_true (y6.1 tb m (IT hm rfl))) (by kernel_rfl);simp only [ArgsT] at ub;obtain ⟨a0,_,rfl,t0,a1,_,rfl,t1,rfl⟩:=ub;obtain ⟨dn,l,cn,cs,T,U,rfl,hc⟩:=caseTy t0;obtain ⟨xn,ch,rfl,iy,ur⟩:=u8sTy t1;obtain ⟨rfl,rfl⟩:=trodVars_none hV;have hev:=reads20_ev (dn:=dn) (cn:=cn) hc xn iy ur;have hC:=(L6 mixed rdT_ok (rdX_ok (O:=noObjs.of)) hev).2 Av0 W args.toList (fun _ _ h=>h.elim) hx;rw [yX] at hC;refine hC.mono fun e W' ⟨v,he,hv,hb⟩=>?_
 have hv':v=.bool true:=hv;subst he;subst hv';exact ⟨_,rfl,LZ (pa:=p) (pv:=[]) hW' (fun _ _ _=>trodAll_cons_mk (shut_bool Tryz.underlying4 _) trodAll_mk0) (G0 laidOut hb hA1 (by kernel_rfl)) rfl hb⟩
theorem simulateReads_j0:joinA Tryz.pinned.checked.prog 5 Tryz.f5 Rows.simulateReadsSpec Rows.simulateReadsRow=true:=by kernel_rfl
theorem simulateReads_j1:joinB Tryz.pinned.checked.prog 5 Tryz.f5 Rows.simulateReadsSpec Rows.simulateReadsRow=true:=by kernel_rfl
theorem simulateReads_j2:joinC Tryz.pinned.checked.prog 5 Tryz.f5 Rows.simulateReadsSpec Rows.simulateReadsRow=true:=by kernel_rfl
theorem simulateReads_j3:joinD Tryz.pinned.checked.prog 5 Tryz.f5 Rows.simulateReadsSpec Rows.simulateReadsRow=true:=by kernel_rfl
theorem simulateReads_j4:joinE Tryz.pinned.checked.prog 5 Tryz.f5 Rows.simulateReadsSpec Rows.simulateReadsRow=true:=by kernel_rfl
theorem simulateReads_j5:joinF Tryz.pinned.checked.prog 5 Tryz.f5 Rows.simulateReadsSpec Rows.simulateReadsRow=true:=by kernel_rfl
theorem simulateReads_j6:joinG Tryz.pinned.checked.prog 5 Tryz.f5 Rows.simulateReadsSpec Rows.simulateReadsRow=true:=by kernel_rfl
theorem simulateReads_holds:Rows.SimulateReadsSaid :=
 OpenClaim.holds_of_wide 5 Tryz.f5 rfl rfl rfl rfl rfl rfl rfl ⟨rfl,rfl,rfl,rfl,rfl⟩ rfl rfl rfl rfl rfl (by kernel_rfl) Tryz.func5 (joined_of simulateReads_j0 simulateReads_j1 simulateReads_j2 simulateReads_j3 simulateReads_j4 simulateReads_j5 simulateReads_j6)
  (of_decide_eq_true (by kernel_rfl)) (by unfold Func.isWrapper; first | (rw [if_pos (by decide +kernel)]; kernel_rfl) | (rw [if_neg (by decide +kernel)]; exact ⟨rfl,rfl⟩))
  (fun os started H enc _=>simulateReads_lifted os started H enc)
end Go.Proofs.YtbhbeakhognieaaGreat
