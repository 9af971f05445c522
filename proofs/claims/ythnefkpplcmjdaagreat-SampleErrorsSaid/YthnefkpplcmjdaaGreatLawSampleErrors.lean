/- sheavelaw15.SampleErrors: for every input it returns true and leaves its input as it was. No condition. -/
import Derived.Test.YthnefkpplcmjdaaGreatWs
set_option linter.all false
open List renaming all_eq_true → y6
open Array renaming toArray_toList → yK
namespace Go.Proofs.YthnefkpplcmjdaaGreat
open Go Go.RowKit Go.ChangeShapes Go.WideShapes Go.ChangeAt
theorem ok_law_SampleErrors:SC Tryz.prog 4 FD:=okF Tryz.func4
set_option maxRecDepth 100000 in
theorem sampleErrors_lifted (os:Os) (started:os.Started) (H:Type) (enc:TypeId × Value->H) :
  ReturnsInHanded {} Tryz.checked os 4 .any (Rows.sampleErrorsSpec.pre6 enc Tryz.prog Tryz.f4 Rows.sampleErrorsRow.domain false) (Rows.sampleErrorsSpec.post enc Tryz.prog Tryz.f4 false true false false):=by
 refine returnsInHanded_of_change_sized (C:=Tryz.checked) own started (by kernel_rfl) Tryz.func4
  (ChangeSpec.witness6 (enc:=enc) (C:=Tryz.checked) false ⟨#[],#[.agg #[.slice none 0 0],.int .i64 0,.int .i64 0],[]⟩ 8 (by kernel_rfl) (by kernel_rfl) (by kernel_rfl) (by kernel_rfl)) ?_
 intro W base args ds gs before hval0 hW lu ra _;have hval:∀ (j:Nat) t v,Tryz.f4.params[j]?=some t->args[j]?=some v->Value.okWide Tryz.prog W .any base t v:=hval0;have hW':=hW;obtain ⟨p,q,jl,hV,rfl,hfz,hnd⟩:=hW;have hA:DataW.TrodAll enc Tryz.prog W 0 (fun _=>true) true Tryz.f4.params.toList args.toList ds p:=jl;rw [Tryz.params4] at hA hval;have hA1:DataW.TrodAll enc Tryz.prog W 0 (fun _=>true) true [29,3,3] args.toList ds p:=hA;have hd:∃ d0 d1 d2,ds=[d0,d1,d2]:=by
  obtain ⟨_,_,d0,_,_,_,_,rfl,_,_,r0⟩:=trodAll_cons hA1;obtain ⟨_,_,d1,_,_,_,_,rfl,_,_,r1⟩:=trodAll_cons r0;obtain ⟨_,_,d2,_,_,_,_,rfl,_,_,r2⟩:=trodAll_cons r1;obtain ⟨_,rfl,_⟩:=trodAll_nil r2;exact ⟨d0,d1,d2,rfl⟩
 obtain ⟨d0,d1,d2,rfl⟩:=hd;obtain ⟨xs,hx,oc⟩:=Ka (T:=Jk) Ww hA1 (fun j t v e e'=>hval j t v (by simpa using e) (by simpa using e')) (fun m hm=>of_decide_eq_true (y6.1 ra m (bV hm rfl))) (by kernel_rfl);simp only [Ua] at oc;obtain ⟨a0,_,rfl,t0,a1,_,rfl,t1,a2,_,rfl,t2,rfl⟩:=oc;obtain ⟨s,rfl,hs,ub,hn⟩:=schTy t0;obtain ⟨z,rfl⟩:=intTy t1;obtain ⟨y,rfl⟩:=intTy t2;obtain ⟨rfl,rfl⟩:=trodVars_none hV;have hev:=qY s hs ub hn z y;have hC:=(Ff mixedT Gz (Cy (O:=noObjs.of)) hev).2 Dy W args.toList ⟨⟨trivial,fun _ h=>h.elim⟩,fun _ _ h=>h.elim⟩ hx;rw [yK] at hC;refine hC.mono fun e W' ⟨v,he,hv,hb⟩=>?_
 have hv':v=.bool true:=hv;subst he;subst hv';exact ⟨_,rfl,F2 (pa:=p) (pv:=[]) hW' (fun _ _ _=>trodAll_cons_mk (shut_bool Tryz.underlying4 _) trodAll_mk0) (d3 Ub hb hA1 (by kernel_rfl)) rfl hb⟩
theorem sampleErrors_j0:Ih Tryz.pinned.checked.prog 4 Tryz.f4 Rows.sampleErrorsSpec Rows.sampleErrorsRow=true:=by kernel_rfl
theorem sampleErrors_j1:Oh Tryz.pinned.checked.prog 4 Tryz.f4 Rows.sampleErrorsSpec Rows.sampleErrorsRow=true:=by kernel_rfl
theorem sampleErrors_j2:Ph Tryz.pinned.checked.prog 4 Tryz.f4 Rows.sampleErrorsSpec Rows.sampleErrorsRow=true:=by kernel_rfl
theorem sampleErrors_j3:Ah Tryz.pinned.checked.prog 4 Tryz.f4 Rows.sampleErrorsSpec Rows.sampleErrorsRow=true:=by kernel_rfl
theorem sampleErrors_j4:Sh Tryz.pinned.checked.prog 4 Tryz.f4 Rows.sampleErrorsSpec Rows.sampleErrorsRow=true:=by kernel_rfl
theorem sampleErrors_j5:Dh Tryz.pinned.checked.prog 4 Tryz.f4 Rows.sampleErrorsSpec Rows.sampleErrorsRow=true:=by kernel_rfl
theorem sampleErrors_j6:Fh Tryz.pinned.checked.prog 4 Tryz.f4 Rows.sampleErrorsSpec Rows.sampleErrorsRow=true:=by kernel_rfl
theorem sampleErrors_holds:Rows.SampleErrorsSaid :=
 OpenClaim.holds_of_wide 4 Tryz.f4 rfl rfl rfl rfl rfl rfl rfl ⟨rfl,rfl,rfl,rfl,rfl⟩ rfl rfl rfl rfl rfl (by kernel_rfl) Tryz.func4 (Oi sampleErrors_j0 sampleErrors_j1 sampleErrors_j2 sampleErrors_j3 sampleErrors_j4 sampleErrors_j5 sampleErrors_j6)
  (of_decide_eq_true (by kernel_rfl)) (by unfold Func.isWrapper; first | (rw [if_pos (by decide +kernel)]; kernel_rfl) | (rw [if_neg (by decide +kernel)]; exact ⟨rfl,rfl⟩))
  (fun os started H enc _=>sampleErrors_lifted os started H enc)
end Go.Proofs.YthnefkpplcmjdaaGreat
