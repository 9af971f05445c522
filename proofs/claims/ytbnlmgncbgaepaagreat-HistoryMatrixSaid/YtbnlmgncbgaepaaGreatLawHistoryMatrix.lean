/- sheavelaw24.HistoryMatrix: for every input it returns true and leaves its input as it was. No condition. -/
import Derived.Test.YtbnlmgncbgaepaaGreatWv
set_option linter.all false
open List renaming all_eq_true → y4
open Array renaming toArray_toList → yT
namespace Go.Proofs.YtbnlmgncbgaepaaGreat
open Go Go.RowKit Go.ChangeShapes Go.WideShapes Go.ChangeAt
theorem ok_law_HistoryMatrix:FnOk Tryz.prog 11 q1n:=okF Tryz.func11
set_option maxRecDepth 100000 in
theorem historyMatrix_lifted (os:Os) (started:os.Started) (H:Type) (enc:TypeId × Value->H) :
  ReturnsInHanded {} Tryz.checked os 11 .any (Rows.historyMatrixSpec.pre6 enc Tryz.prog Tryz.f11 Rows.historyMatrixRow.domain false) (Rows.historyMatrixSpec.post enc Tryz.prog Tryz.f11 false true false false):=by
 refine returnsInHanded_of_change_sized (C:=Tryz.checked) own started (by kernel_rfl) Tryz.func11
  (ChangeSpec.witness6 (enc:=enc) (C:=Tryz.checked) false ⟨#[],#[.agg #[.slice none 0 0,.slice none 0 0,.int .u8 0]],[]⟩ 8 (by kernel_rfl) (by kernel_rfl) (by kernel_rfl) (by kernel_rfl)) ?_
 intro W base args ds gs before au hW iH ic _;have uj:∀ (j:Nat) t v,Tryz.f11.params[j]?=some t->args[j]?=some v->Value.okWide Tryz.prog W .any base t v:=au;have xG:=hW;obtain ⟨p,q,tk,hV,rfl,lO,cB⟩:=hW;have hA:DataW.TrodAll enc Tryz.prog W 0 (fun _=>true) true Tryz.f11.params.toList args.toList ds p:=tk;rw [Tryz.params11] at hA uj;have iy:DataW.TrodAll enc Tryz.prog W 0 (fun _=>true) true [78] args.toList ds p:=hA;have hd:∃ d0,ds=[d0]:=by
  obtain ⟨_,_,d0,_,_,_,_,rfl,_,_,r0⟩:=trodAll_cons iy;obtain ⟨_,rfl,_⟩:=trodAll_nil r0;exact ⟨d0,rfl⟩
 obtain ⟨d0,rfl⟩:=hd;obtain ⟨xs,hx,rb⟩:=args_T (T:=histTs) histTs_good iy (fun j t v e e'=>uj j t v (by simpa using e) (by simpa using e')) (fun m hm=>of_decide_eq_true (y4.1 ic m (q8F hm rfl))) (by kernel_rfl);simp only [ArgsT] at rb;obtain ⟨a0,_,rfl,t0,rfl⟩:=rb;obtain ⟨dn,l,cn,css,T,rfl,hc⟩:=histTy t0;obtain ⟨rfl,rfl⟩:=trodVars_none hV;have bz:=hmatrix_ev (dn:=dn) (cn:=cn) hc;have hC:=(qbG mixed allT_ok (hisExt_ok (O:=noObjs.of)) bz).2 Av0 W args.toList (fun _ _ h=>h.elim) hx;rw [yT] at hC;refine hC.mono fun e W' ⟨v,he,hv,hb⟩=>?_
 have kA:v=.bool true:=hv;subst he;subst kA;exact ⟨_,rfl,qab (pa:=p) (pv:=[]) xG (fun _ _ _=>trodAll_cons_mk (shut_bool Tryz.underlying4 _) trodAll_mk0) (args_back laidOut hb iy (by kernel_rfl)) rfl hb⟩
theorem historyMatrix_j0:joinA Tryz.pinned.checked.prog 11 Tryz.f11 Rows.historyMatrixSpec Rows.historyMatrixRow=true:=by kernel_rfl
theorem historyMatrix_j1:joinB Tryz.pinned.checked.prog 11 Tryz.f11 Rows.historyMatrixSpec Rows.historyMatrixRow=true:=by kernel_rfl
theorem historyMatrix_j2:joinC Tryz.pinned.checked.prog 11 Tryz.f11 Rows.historyMatrixSpec Rows.historyMatrixRow=true:=by kernel_rfl
theorem historyMatrix_j3:joinD Tryz.pinned.checked.prog 11 Tryz.f11 Rows.historyMatrixSpec Rows.historyMatrixRow=true:=by kernel_rfl
theorem historyMatrix_j4:joinE Tryz.pinned.checked.prog 11 Tryz.f11 Rows.historyMatrixSpec Rows.historyMatrixRow=true:=by kernel_rfl
theorem historyMatrix_j5:joinF Tryz.pinned.checked.prog 11 Tryz.f11 Rows.historyMatrixSpec Rows.historyMatrixRow=true:=by kernel_rfl
theorem historyMatrix_j6:joinG Tryz.pinned.checked.prog 11 Tryz.f11 Rows.historyMatrixSpec Rows.historyMatrixRow=true:=by kernel_rfl
theorem historyMatrix_holds:Rows.HistoryMatrixSaid :=
 OpenClaim.holds_of_wide 11 Tryz.f11 rfl rfl rfl rfl rfl rfl rfl ⟨rfl,rfl,rfl,rfl,rfl⟩ rfl rfl rfl rfl rfl (by kernel_rfl) Tryz.func11 (joined_of historyMatrix_j0 historyMatrix_j1 historyMatrix_j2 historyMatrix_j3 historyMatrix_j4 historyMatrix_j5 historyMatrix_j6)
  (of_decide_eq_true (by kernel_rfl)) (by unfold Func.isWrapper; first | (rw [if_pos (by decide +kernel)]; kernel_rfl) | (rw [if_neg (by decide +kernel)]; exact ⟨rfl,rfl⟩))
  (fun os started H enc _=>historyMatrix_lifted os started H enc)
end Go.Proofs.YtbnlmgncbgaepaaGreat
