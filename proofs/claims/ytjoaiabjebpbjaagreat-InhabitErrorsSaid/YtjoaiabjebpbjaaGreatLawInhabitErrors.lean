/- sheavelaw11.InhabitErrors: for every input it returns true and leaves its input as it was. No condition. -/
import Derived.Test.YtjoaiabjebpbjaaGreatSw
set_option linter.all false
open List renaming all_eq_true → y6
open Array renaming toArray_toList → yS
namespace Go.Proofs.YtjoaiabjebpbjaaGreat
open Go Go.RowKit Go.ChangeShapes Go.WideShapes Go.ChangeAt
theorem ok_law_InhabitErrors:QA Tryz.prog 5 kC:=okF Tryz.func5
set_option maxRecDepth 100000 in
theorem inhabitErrors_lifted (os:Os) (started:os.Started) (H:Type) (enc:TypeId × Value->H) :
  ReturnsInHanded {} Tryz.checked os 5 .any (Rows.inhabitErrorsSpec.pre6 enc Tryz.prog Tryz.f5 Rows.inhabitErrorsRow.domain false) (Rows.inhabitErrorsSpec.post enc Tryz.prog Tryz.f5 false true false false):=by
 refine returnsInHanded_of_change_sized (C:=Tryz.checked) own started (by kernel_rfl) Tryz.func5
  (ChangeSpec.witness6 (enc:=enc) (C:=Tryz.checked) false ⟨#[],#[.agg #[.slice none 0 0],.int .i64 0],[]⟩ 8 (by kernel_rfl) (by kernel_rfl) (by kernel_rfl) (by kernel_rfl)) ?_
 intro W base args ds gs before jw hW hcnd ma _;have iw:∀ (j:Nat) t v,Tryz.f5.params[j]?=some t->args[j]?=some v->Value.okWide Tryz.prog W .any base t v:=jw;have hW':=hW;obtain ⟨p,q,wl,hV,rfl,hfz,hnd⟩:=hW;have hA:DataW.TrodAll enc Tryz.prog W 0 (fun _=>true) true Tryz.f5.params.toList args.toList ds p:=wl;rw [Tryz.params5] at hA iw;have hA1:DataW.TrodAll enc Tryz.prog W 0 (fun _=>true) true [31,3] args.toList ds p:=hA;have hd:∃ d0 d1,ds=[d0,d1]:=by
  obtain ⟨_,_,d0,_,_,_,_,rfl,_,_,r0⟩:=trodAll_cons hA1;obtain ⟨_,_,d1,_,_,_,_,rfl,_,_,r1⟩:=trodAll_cons r0;obtain ⟨_,rfl,_⟩:=trodAll_nil r1;exact ⟨d0,d1,rfl⟩
 obtain ⟨d0,d1,rfl⟩:=hd;obtain ⟨xs,hx,wa⟩:=args_T (T:=schTs) schTs_good hA1 (fun j t v e e'=>iw j t v (by simpa using e) (by simpa using e')) (fun m hm=>of_decide_eq_true (y6.1 ma m (wU hm rfl))) (by kernel_rfl);simp only [ArgsT] at wa;obtain ⟨a0,_,rfl,t0,a1,_,rfl,t1,rfl⟩:=wa;obtain ⟨s,rfl,hs,nb,hn⟩:=schTy t0;obtain ⟨z,rfl⟩:=intTy t1;obtain ⟨rfl,rfl⟩:=trodVars_none hV;have hev:=n7 s hs nb hn z;have hC:=(E7 mixed allT_ok (Q2 (O:=noObjs.of)) hev).2 tU W args.toList (fun _ _ h=>h.elim) hx;rw [yS] at hC;refine hC.mono fun e W' ⟨v,he,hv,hb⟩=>?_
 have hv':v=.bool true:=hv;subst he;subst hv';exact ⟨_,rfl,nR (pa:=p) (pv:=[]) hW' (fun _ _ _=>trodAll_cons_mk (shut_bool Tryz.underlying4 _) trodAll_mk0) (sU laidOut hb hA1 (by kernel_rfl)) rfl hb⟩
theorem inhabitErrors_j0:joinA Tryz.pinned.checked.prog 5 Tryz.f5 Rows.inhabitErrorsSpec Rows.inhabitErrorsRow=true:=by kernel_rfl
theorem inhabitErrors_j1:joinB Tryz.pinned.checked.prog 5 Tryz.f5 Rows.inhabitErrorsSpec Rows.inhabitErrorsRow=true:=by kernel_rfl
theorem inhabitErrors_j2:joinC Tryz.pinned.checked.prog 5 Tryz.f5 Rows.inhabitErrorsSpec Rows.inhabitErrorsRow=true:=by kernel_rfl
theorem inhabitErrors_j3:joinD Tryz.pinned.checked.prog 5 Tryz.f5 Rows.inhabitErrorsSpec Rows.inhabitErrorsRow=true:=by kernel_rfl
theorem inhabitErrors_j4:joinE Tryz.pinned.checked.prog 5 Tryz.f5 Rows.inhabitErrorsSpec Rows.inhabitErrorsRow=true:=by kernel_rfl
theorem inhabitErrors_j5:joinF Tryz.pinned.checked.prog 5 Tryz.f5 Rows.inhabitErrorsSpec Rows.inhabitErrorsRow=true:=by kernel_rfl
theorem inhabitErrors_j6:joinG Tryz.pinned.checked.prog 5 Tryz.f5 Rows.inhabitErrorsSpec Rows.inhabitErrorsRow=true:=by kernel_rfl
theorem inhabitErrors_holds:Rows.InhabitErrorsSaid :=
 OpenClaim.holds_of_wide 5 Tryz.f5 rfl rfl rfl rfl rfl rfl rfl ⟨rfl,rfl,rfl,rfl,rfl⟩ rfl rfl rfl rfl rfl (by kernel_rfl) Tryz.func5 (N2 inhabitErrors_j0 inhabitErrors_j1 inhabitErrors_j2 inhabitErrors_j3 inhabitErrors_j4 inhabitErrors_j5 inhabitErrors_j6)
  (of_decide_eq_true (by kernel_rfl)) (by unfold Func.isWrapper; first | (rw [if_pos (by decide +kernel)]; kernel_rfl) | (rw [if_neg (by decide +kernel)]; exact ⟨rfl,rfl⟩))
  (fun os started H enc _=>inhabitErrors_lifted os started H enc)
end Go.Proofs.YtjoaiabjebpbjaaGreat
