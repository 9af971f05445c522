/- sheavelaw24.HistoryWays: for every input it returns true and leaves its input as it was. No condition. -/
import Derived.Test.YtbnlmgncbgaepaaGreatWu
set_option linter.all false
open List renaming all_eq_true → y4
open Array renaming toArray_toList → yT
namespace Go.Proofs.YtbnlmgncbgaepaaGreat
open Go Go.RowKit Go.ChangeShapes Go.WideShapes Go.ChangeAt
theorem ok_law_HistoryWays:FnOk Tryz.prog 13 q1j:=okF Tryz.func13
set_option maxRecDepth 100000 in
theorem historyWays_lifted (os:Os) (started:os.Started) (H:Type) (enc:TypeId × Value->H) :
  ReturnsInHanded {} Tryz.checked os 13 .any (Rows.historyWaysSpec.pre6 enc Tryz.prog Tryz.f13 Rows.historyWaysRow.domain false) (Rows.historyWaysSpec.post enc Tryz.prog Tryz.f13 false true false false):=by
 refine returnsInHanded_of_change_sized (C:=Tryz.checked) own started (by kernel_rfl) Tryz.func13
  (ChangeSpec.witness6 (enc:=enc) (C:=Tryz.checked) false ⟨#[],#[.agg #[.slice none 0 0,.slice none 0 0,.int .u8 0]],[]⟩ 8 (by kernel_rfl) (by kernel_rfl) (by kernel_rfl) (by kernel_rfl)) ?_
 intro W base args ds gs before au hW iH ic _;have uj:∀ (j:Nat) t v,Tryz.f13.params[j]?=some t->args[j]?=some v->Value.okWide Tryz.prog W .any base t v:=au;have xG:=hW;obtain ⟨p,q,tk,hV,rfl,lO,cB⟩:=hW;have hA:DataW.TrodAll enc Tryz.prog W 0 (fun _=>true) true Tryz.f13.params.toList args.toList ds p:=tk;rw [Tryz.params13] at hA uj;have iy:DataW.TrodAll enc Tryz.prog W 0 (fun _=>true) true [78] args.toList ds p:=hA;have hd:∃ d0,ds=[d0]:=by
  obtain ⟨_,_,d0,_,_,_,_,rfl,_,_,r0⟩:=trodAll_cons iy;obtain ⟨_,rfl,_⟩:=trodAll_nil r0;exact ⟨d0,rfl⟩
 obtain ⟨d0,rfl⟩:=hd;obtain ⟨xs,hx,rb⟩:=args_T (T:=histTs) histTs_good iy (fun j t v e e'=>uj j t v (by simpa using e) (by simpa using e')) (fun m hm=>of_decide_eq_true (y4.1 ic m (q8F hm rfl))) (by kernel_rfl);simp only [ArgsT] at rb;obtain ⟨a0,_,rfl,t0,rfl⟩:=rb;obtain ⟨dn,l,cn,css,T,rfl,hc⟩:=histTy t0;obtain ⟨rfl,rfl⟩:=trodVars_none hV;have bz:=ways_ev (dn:=dn) (cn:=cn) hc;have hC:=(qbG mixed allT_ok (hisExt_ok (O:=noObjs.of)) bz).2 Av0 W args.toList (fun _ _ h=>h.elim) hx;rw [yT] at hC;refine hC.mono fun e W' ⟨v,he,hv,hb⟩=>?_
 have kA:v=.bool true:=hv;subst he;subst kA;exact ⟨_,rfl,qab (pa:=p) (pv:=[]) xG (fun _ _ _=>trodAll_cons_mk (shut_bool Tryz.underlying4 _) trodAll_mk0) (args_back laidOut hb iy (by kernel_rfl)) rfl hb⟩
theorem historyWays_j0:joinA Tryz.pinned.checked.prog 13 Tryz.f13 Rows.historyWaysSpec Rows.historyWaysRow=true:=by kernel_rfl
theorem historyWays_j1:joinB Tryz.pinned.checked.prog 13 Tryz.f13 Rows.historyWaysSpec Rows.historyWaysRow=true:=by kernel_rfl
theorem historyWays_j2:joinC Tryz.pinned.checked.prog 13 Tryz.f13 Rows.historyWaysSpec Rows.historyWaysRow=true:=by kernel_rfl
theorem historyWays_j3:joinD Tryz.pinned.checked.prog 13 Tryz.f13 Rows.historyWaysSpec Rows.historyWaysRow=true:=by kernel_rfl
theorem historyWays_j4:joinE Tryz.pinned.checked.prog 13 Tryz.f13 Rows.historyWaysSpec Rows.historyWaysRow=true:=by kernel_rfl
theorem historyWays_j5:joinF Tryz.pinned.checked.prog 13 Tryz.f13 Rows.historyWaysSpec Rows.historyWaysRow=true:=by kernel_rfl
theorem historyWays_j6:joinG Tryz.pinned.checked.prog 13 Tryz.f13 Rows.historyWaysSpec Rows.historyWaysRow=true:=by kernel_rfl
theorem historyWays_holds:Rows.HistoryWaysSaid :=
 OpenClaim.holds_of_wide 13 Tryz.f13 rfl rfl rfl rfl rfl rfl rfl ⟨rfl,rfl,rfl,rfl,rfl⟩ rfl rfl rfl rfl rfl (by kernel_rfl) Tryz.func13 (joined_of historyWays_j0 historyWays_j1 historyWays_j2 historyWays_j3 historyWays_j4 historyWays_j5 historyWays_j6)
  (of_decide_eq_true (by kernel_rfl)) (by unfold Func.isWrapper; first | (rw [if_pos (by decide +kernel)]; kernel_rfl) | (rw [if_neg (by decide +kernel)]; exact ⟨rfl,rfl⟩))
  (fun os started H enc _=>historyWays_lifted os started H enc)
end Go.Proofs.YtbnlmgncbgaepaaGreat
