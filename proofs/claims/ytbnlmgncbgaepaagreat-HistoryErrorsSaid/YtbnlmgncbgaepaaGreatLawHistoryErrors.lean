/- sheavelaw24.HistoryErrors: for every input it returns true and leaves its input as it was. No condition. -/
import Derived.Test.YtbnlmgncbgaepaaGreatTt
set_option linter.all false
open List renaming all_eq_true → y6
open Array renaming toArray_toList → yV
namespace Go.Proofs.YtbnlmgncbgaepaaGreat
open Go Go.RowKit Go.ChangeShapes Go.WideShapes Go.ChangeAt
theorem ok_law_HistoryErrors:bA Tryz.prog 14 DB:=okF Tryz.func14
set_option maxRecDepth 100000 in
theorem historyErrors_lifted (os:Os) (started:os.Started) (H:Type) (enc:TypeId × Value->H) :
  ReturnsInHanded {} Tryz.checked os 14 .any (Rows.historyErrorsSpec.pre6 enc Tryz.prog Tryz.f14 Rows.historyErrorsRow.domain false) (Rows.historyErrorsSpec.post enc Tryz.prog Tryz.f14 false true false false):=by
 refine returnsInHanded_of_change_sized (C:=Tryz.checked) own started (by kernel_rfl) Tryz.func14
  (ChangeSpec.witness6 (enc:=enc) (C:=Tryz.checked) false ⟨#[],#[.slice none 0 0],[]⟩ 8 (by kernel_rfl) (by kernel_rfl) (by kernel_rfl) (by kernel_rfl)) ?_
 intro W base args ds gs before gu hW hcnd ac _;have oj:∀ (j:Nat) t v,Tryz.f14.params[j]?=some t->args[j]?=some v->Value.okWide Tryz.prog W .any base t v:=gu;have hW':=hW;obtain ⟨p,q,bk,hV,rfl,hfz,cw⟩:=hW;have hA:DataW.TrodAll enc Tryz.prog W 0 (fun _=>true) true Tryz.f14.params.toList args.toList ds p:=bk;rw [Tryz.params14] at hA oj;have ey:DataW.TrodAll enc Tryz.prog W 0 (fun _=>true) true [79] args.toList ds p:=hA;have hd:∃ d0,ds=[d0]:=by
  obtain ⟨_,_,d0,_,_,_,_,rfl,_,_,r0⟩:=trodAll_cons ey;obtain ⟨_,rfl,_⟩:=trodAll_nil r0;exact ⟨d0,rfl⟩
 obtain ⟨d0,rfl⟩:=hd;obtain ⟨xs,hx,nb⟩:=args_T (T:=rootTs) Q9 ey (fun j t v e e'=>oj j t v (by simpa using e) (by simpa using e')) (fun m hm=>of_decide_eq_true (y6.1 ac m (FO hm rfl))) (by kernel_rfl);simp only [ArgsT] at nb;obtain ⟨a0,_,rfl,t0,rfl⟩:=nb;obtain ⟨nl,l,rfl,hl,hf⟩:=rootsTy t0;obtain ⟨rfl,rfl⟩:=trodVars_none hV;have dz:=herrors_ev nl l hl hf;have hC:=(UN mixed mW (G0 (O:=noObjs.of)) dz).2 Av0 W args.toList (fun _ _ h=>h.elim) hx;rw [yV] at hC;refine hC.mono fun e W' ⟨v,he,hv,hb⟩=>?_
 have hv':v=.bool true:=hv;subst he;subst hv';exact ⟨_,rfl,nR (pa:=p) (pv:=[]) hW' (fun _ _ _=>trodAll_cons_mk (shut_bool Tryz.underlying4 _) trodAll_mk0) (KT laidOut hb ey (by kernel_rfl)) rfl hb⟩
theorem historyErrors_j0:joinA Tryz.pinned.checked.prog 14 Tryz.f14 Rows.historyErrorsSpec Rows.historyErrorsRow=true:=by kernel_rfl
theorem historyErrors_j1:joinB Tryz.pinned.checked.prog 14 Tryz.f14 Rows.historyErrorsSpec Rows.historyErrorsRow=true:=by kernel_rfl
theorem historyErrors_j2:joinC Tryz.pinned.checked.prog 14 Tryz.f14 Rows.historyErrorsSpec Rows.historyErrorsRow=true:=by kernel_rfl
theorem historyErrors_j3:joinD Tryz.pinned.checked.prog 14 Tryz.f14 Rows.historyErrorsSpec Rows.historyErrorsRow=true:=by kernel_rfl
theorem historyErrors_j4:joinE Tryz.pinned.checked.prog 14 Tryz.f14 Rows.historyErrorsSpec Rows.historyErrorsRow=true:=by kernel_rfl
theorem historyErrors_j5:joinF Tryz.pinned.checked.prog 14 Tryz.f14 Rows.historyErrorsSpec Rows.historyErrorsRow=true:=by kernel_rfl
theorem historyErrors_j6:joinG Tryz.pinned.checked.prog 14 Tryz.f14 Rows.historyErrorsSpec Rows.historyErrorsRow=true:=by kernel_rfl
theorem historyErrors_holds:Rows.HistoryErrorsSaid :=
 OpenClaim.holds_of_wide 14 Tryz.f14 rfl rfl rfl rfl rfl rfl rfl ⟨rfl,rfl,rfl,rfl,rfl⟩ rfl rfl rfl rfl rfl (by kernel_rfl) Tryz.func14 (N0 historyErrors_j0 historyErrors_j1 historyErrors_j2 historyErrors_j3 historyErrors_j4 historyErrors_j5 historyErrors_j6)
  (of_decide_eq_true (by kernel_rfl)) (by unfold Func.isWrapper; first | (rw [if_pos (by decide +kernel)]; kernel_rfl) | (rw [if_neg (by decide +kernel)]; exact ⟨rfl,rfl⟩))
  (fun os started H enc _=>historyErrors_lifted os started H enc)
end Go.Proofs.YtbnlmgncbgaepaaGreat
