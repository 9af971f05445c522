/- sheavelaw24.HistorySets: for every input it returns true and leaves its input as it was. No condition. -/
import Derived.Test.YtbnlmgncbgaepaaGreatVd
set_option linter.unusedSimpArgs false
set_option linter.unusedVariables false
set_option linter.unusedSectionVars false
open List renaming all_eq_true → y5
open Array renaming toArray_toList → yA
namespace Go.Proofs.YtbnlmgncbgaepaaGreat
open Go Go.RowKit Go.ChangeShapes Go.WideShapes Go.ChangeAt
theorem ok_law_HistorySets:FnOk Tryz.prog 15 q0a:=⟨fun xs w=>by kernel_rfl,_,Tryz.func15,by kernel_rfl⟩
set_option maxRecDepth 100000 in
theorem historySets_lifted (os:Os) (started:os.Started) (H:Type) (enc:TypeId × Value->H) :
  ReturnsInHanded {} Tryz.checked os 15 .any (Rows.historySetsSpec.pre6 enc Tryz.prog Tryz.f15 Rows.historySetsRow.domain false) (Rows.historySetsSpec.post enc Tryz.prog Tryz.f15 false true false false):=by
 refine returnsInHanded_of_change_sized (C:=Tryz.checked) own started (by kernel_rfl) Tryz.func15
  (ChangeSpec.witness6 (enc:=enc) (C:=Tryz.checked) false ⟨#[],#[.slice none 0 0,.int .u8 0],[]⟩ 8 (by kernel_rfl) (by kernel_rfl) (by kernel_rfl) (by kernel_rfl)) ?_
 intro W base args ds gs before hval0 hW hcnd hsz _;have hval:∀ (j:Nat) t v,Tryz.f15.params[j]?=some t->args[j]?=some v->Value.okWide Tryz.prog W .any base t v:=hval0;have hW':=hW;obtain ⟨p,q,hA0,hV,rfl,hfz,hnd⟩:=hW;have hA:DataW.TrodAll enc Tryz.prog W 0 (fun _=>true) true Tryz.f15.params.toList args.toList ds p:=hA0;rw [Tryz.params15] at hA hval;have hA1:DataW.TrodAll enc Tryz.prog W 0 (fun _=>true) true [67,92] args.toList ds p:=hA;have hd:∃ d0 d1,ds=[d0,d1]:=by
  obtain ⟨_,_,d0,_,_,_,_,rfl,_,_,r0⟩:=trodAll_cons hA1;obtain ⟨_,_,d1,_,_,_,_,rfl,_,_,r1⟩:=trodAll_cons r0;obtain ⟨_,rfl,_⟩:=trodAll_nil r1;exact ⟨d0,d1,rfl⟩
 obtain ⟨d0,d1,rfl⟩:=hd;obtain ⟨xs,hx,hty⟩:=args_T (T:=setTs) setTs_good hA1 (fun j t v e e'=>hval j t v (by simpa using e) (by simpa using e')) (fun m hm=>of_decide_eq_true (y5.1 hsz m (q4a hm rfl))) (by kernel_rfl);simp only [ArgsT] at hty;obtain ⟨a0,_,rfl,t0,a1,_,rfl,t1,rfl⟩:=hty;obtain ⟨nl,l,rfl,hl⟩:=tbTy t0;obtain ⟨S,rfl,hS⟩:=setTy t1;obtain ⟨rfl,rfl⟩:=trodVars_none hV;have hev:=sets_ev nl l hl hS;have hC:=(q6T mixed allT_ok (hisExt_ok (O:=noObjs.of)) hev).2 Av0 W args.toList (fun _ _ h=>h.elim) hx;rw [yA] at hC;refine hC.mono fun e W' ⟨v,he,hv,hb⟩=>?_
 have hv':v=.bool true:=hv;subst he;subst hv';exact ⟨_,rfl,q5x (pa:=p) (pv:=[]) hW' (fun _ _ _=>trodAll_cons_mk (shut_bool Tryz.underlying4 _) trodAll_mk0) (args_back laidOut hb hA1 (by kernel_rfl)) rfl hb⟩
theorem historySets_j0:joinA Tryz.pinned.checked.prog 15 Tryz.f15 Rows.historySetsSpec Rows.historySetsRow=true:=by kernel_rfl
theorem historySets_j1:joinB Tryz.pinned.checked.prog 15 Tryz.f15 Rows.historySetsSpec Rows.historySetsRow=true:=by kernel_rfl
theorem historySets_j2:joinC Tryz.pinned.checked.prog 15 Tryz.f15 Rows.historySetsSpec Rows.historySetsRow=true:=by kernel_rfl
theorem historySets_j3:joinD Tryz.pinned.checked.prog 15 Tryz.f15 Rows.historySetsSpec Rows.historySetsRow=true:=by kernel_rfl
theorem historySets_j4:joinE Tryz.pinned.checked.prog 15 Tryz.f15 Rows.historySetsSpec Rows.historySetsRow=true:=by kernel_rfl
theorem historySets_j5:joinF Tryz.pinned.checked.prog 15 Tryz.f15 Rows.historySetsSpec Rows.historySetsRow=true:=by kernel_rfl
theorem historySets_j6:joinG Tryz.pinned.checked.prog 15 Tryz.f15 Rows.historySetsSpec Rows.historySetsRow=true:=by kernel_rfl
theorem historySets_holds:Rows.HistorySetsSaid :=
 OpenClaim.holds_of_wide 15 Tryz.f15 rfl rfl rfl rfl rfl rfl rfl ⟨rfl,rfl,rfl,rfl,rfl⟩ rfl rfl rfl rfl rfl (by kernel_rfl) Tryz.func15 (joined_of historySets_j0 historySets_j1 historySets_j2 historySets_j3 historySets_j4 historySets_j5 historySets_j6)
  (of_decide_eq_true (by kernel_rfl)) (by unfold Func.isWrapper; first | (rw [if_pos (by decide +kernel)]; kernel_rfl) | (rw [if_neg (by decide +kernel)]; exact ⟨rfl,rfl⟩))
  (fun os started H enc _=>historySets_lifted os started H enc)
end Go.Proofs.YtbnlmgncbgaepaaGreat
