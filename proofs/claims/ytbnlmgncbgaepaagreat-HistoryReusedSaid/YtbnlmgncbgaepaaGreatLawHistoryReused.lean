/- sheavelaw24.HistoryReused: for every input it returns true and leaves its input as it was. No condition. -/
import Derived.Test.YtbnlmgncbgaepaaGreatTt
set_option linter.all false
open List renaming all_eq_true → y6
open Array renaming toArray_toList → yV
namespace Go.Proofs.YtbnlmgncbgaepaaGreat
open Go Go.RowKit Go.ChangeShapes Go.WideShapes Go.ChangeAt
theorem ok_law_HistoryReused:bA Tryz.prog 12 BC:=okF Tryz.func12
set_option maxRecDepth 100000 in
theorem historyReused_lifted (os:Os) (started:os.Started) (H:Type) (enc:TypeId × Value->H) :
  ReturnsInHanded {} Tryz.checked os 12 .any (Rows.historyReusedSpec.pre6 enc Tryz.prog Tryz.f12 Rows.historyReusedRow.domain false) (Rows.historyReusedSpec.post enc Tryz.prog Tryz.f12 false true false false):=by
 refine returnsInHanded_of_change_sized (C:=Tryz.checked) own started (by kernel_rfl) Tryz.func12
  (ChangeSpec.witness6 (enc:=enc) (C:=Tryz.checked) false ⟨#[],#[.agg #[.slice none 0 0,.slice none 0 0,.int .u8 0]],[]⟩ 8 (by kernel_rfl) (by kernel_rfl) (by kernel_rfl) (by kernel_rfl)) ?_
 intro W base args ds gs before gu hW hcnd ac _;have oj:∀ (j:Nat) t v,Tryz.f12.params[j]?=some t->args[j]?=some v->Value.okWide Tryz.prog W .any base t v:=gu;have hW':=hW;obtain ⟨p,q,bk,hV,rfl,hfz,cw⟩:=hW;have hA:DataW.TrodAll enc Tryz.prog W 0 (fun _=>true) true Tryz.f12.params.toList args.toList ds p:=bk;rw [Tryz.params12] at hA oj;have ey:DataW.TrodAll enc Tryz.prog W 0 (fun _=>true) true [78] args.toList ds p:=hA;have hd:∃ d0,ds=[d0]:=by
  obtain ⟨_,_,d0,_,_,_,_,rfl,_,_,r0⟩:=trodAll_cons ey;obtain ⟨_,rfl,_⟩:=trodAll_nil r0;exact ⟨d0,rfl⟩
 obtain ⟨d0,rfl⟩:=hd;obtain ⟨xs,hx,nb⟩:=args_T (T:=histTs) b8 ey (fun j t v e e'=>oj j t v (by simpa using e) (by simpa using e')) (fun m hm=>of_decide_eq_true (y6.1 ac m (FO hm rfl))) (by kernel_rfl);simp only [ArgsT] at nb;obtain ⟨a0,_,rfl,t0,rfl⟩:=nb;obtain ⟨dn,l,cn,css,T,rfl,hc⟩:=histTy t0;obtain ⟨rfl,rfl⟩:=trodVars_none hV;have dz:=J3 (dn:=dn) (cn:=cn) hc;have hC:=(UN mixed mW (G0 (O:=noObjs.of)) dz).2 Av0 W args.toList (fun _ _ h=>h.elim) hx;rw [yV] at hC;refine hC.mono fun e W' ⟨v,he,hv,hb⟩=>?_
 have hv':v=.bool true:=hv;subst he;subst hv';exact ⟨_,rfl,nR (pa:=p) (pv:=[]) hW' (fun _ _ _=>trodAll_cons_mk (shut_bool Tryz.underlying4 _) trodAll_mk0) (KT laidOut hb ey (by kernel_rfl)) rfl hb⟩
theorem historyReused_j0:joinA Tryz.pinned.checked.prog 12 Tryz.f12 Rows.historyReusedSpec Rows.historyReusedRow=true:=by kernel_rfl
theorem historyReused_j1:joinB Tryz.pinned.checked.prog 12 Tryz.f12 Rows.historyReusedSpec Rows.historyReusedRow=true:=by kernel_rfl
theorem historyReused_j2:joinC Tryz.pinned.checked.prog 12 Tryz.f12 Rows.historyReusedSpec Rows.historyReusedRow=true:=by kernel_rfl
theorem historyReused_j3:joinD Tryz.pinned.checked.prog 12 Tryz.f12 Rows.historyReusedSpec Rows.historyReusedRow=true:=by kernel_rfl
theorem historyReused_j4:joinE Tryz.pinned.checked.prog 12 Tryz.f12 Rows.historyReusedSpec Rows.historyReusedRow=true:=by kernel_rfl
theorem historyReused_j5:joinF Tryz.pinned.checked.prog 12 Tryz.f12 Rows.historyReusedSpec Rows.historyReusedRow=true:=by kernel_rfl
theorem historyReused_j6:joinG Tryz.pinned.checked.prog 12 Tryz.f12 Rows.historyReusedSpec Rows.historyReusedRow=true:=by kernel_rfl
theorem historyReused_holds:Rows.HistoryReusedSaid :=
 OpenClaim.holds_of_wide 12 Tryz.f12 rfl rfl rfl rfl rfl rfl rfl ⟨rfl,rfl,rfl,rfl,rfl⟩ rfl rfl rfl rfl rfl (by kernel_rfl) Tryz.func12 (N0 historyReused_j0 historyReused_j1 historyReused_j2 historyReused_j3 historyReused_j4 historyReused_j5 historyReused_j6)
  (of_decide_eq_true (by kernel_rfl)) (by unfold Func.isWrapper; first | (rw [if_pos (by decide +kernel)]; kernel_rfl) | (rw [if_neg (by decide +kernel)]; exact ⟨rfl,rfl⟩))
  (fun os started H enc _=>historyReused_lifted os started H enc)
end Go.Proofs.YtbnlmgncbgaepaaGreat
