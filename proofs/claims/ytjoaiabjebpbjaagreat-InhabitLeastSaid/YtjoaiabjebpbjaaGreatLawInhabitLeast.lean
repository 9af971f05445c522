/- sheavelaw11.InhabitLeast: for every input it returns true and leaves its input as it was. No condition. -/
import Derived.Test.YtjoaiabjebpbjaaGreatSd
import Derived.Test.YtjoaiabjebpbjaaGreatSv
set_option linter.all false
open Array renaming toArray_toList → yS
namespace Go.Proofs.YtjoaiabjebpbjaaGreat
open Go Go.RowKit Go.ChangeShapes Go.WideShapes Go.ChangeAt
theorem ok_law_InhabitLeast:QA Tryz.prog 6 MB:=okF Tryz.func6
set_option maxRecDepth 100000 in
theorem inhabitLeast_lifted (os:Os) (started:os.Started) (H:Type) (enc:TypeId × Value->H) :
  ReturnsInHanded {} Tryz.checked os 6 .any (Rows.inhabitLeastSpec.pre6 enc Tryz.prog Tryz.f6 Rows.inhabitLeastRow.domain false) (Rows.inhabitLeastSpec.post enc Tryz.prog Tryz.f6 false true false false):=by
 refine returnsInHanded_of_change (C:=Tryz.checked) own started (by kernel_rfl) Tryz.func6
  (ChangeSpec.witness6 (enc:=enc) (C:=Tryz.checked) false ⟨#[],#[.agg #[.slice none 0 0,.slice none 0 0],.int .u8 0],[]⟩ 8 (by kernel_rfl) (by kernel_rfl) (by kernel_rfl) (by kernel_rfl)) ?_
 intro W base args ds gs before jw hW hcnd _;have iw:∀ (j:Nat) t v,Tryz.f6.params[j]?=some t->args[j]?=some v->Value.okWide Tryz.prog W .any base t v:=jw;have hW':=hW;obtain ⟨p,q,wl,hV,rfl,hfz,hnd⟩:=hW;have hA:DataW.TrodAll enc Tryz.prog W 0 (fun _=>true) true Tryz.f6.params.toList args.toList ds p:=wl;rw [Tryz.params6] at hA iw;have hA1:DataW.TrodAll enc Tryz.prog W 0 (fun _=>true) true [77,5] args.toList ds p:=hA;obtain ⟨xs,hx,wa⟩:=X6 (k:=8) hA1 (fun j t v e e'=>iw j t v (by simpa using e) (by simpa using e')) (by kernel_rfl);simp only [X9] at wa;obtain ⟨a0,_,rfl,t0,a1,_,rfl,t1,rfl⟩:=wa;obtain ⟨dn,l,wn,ws,rfl,hl,hw⟩:=looseTy t0;obtain ⟨z,rfl,hz⟩:=u8TyP t1;have hd:∃ d0 d1,ds=[d0,d1]:=by
  obtain ⟨_,_,d0,_,_,_,_,rfl,_,_,r0⟩:=trodAll_cons hA1;obtain ⟨_,_,d1,_,_,_,_,rfl,_,_,r1⟩:=trodAll_cons r0;obtain ⟨_,rfl,_⟩:=trodAll_nil r1;exact ⟨d0,d1,rfl⟩
 obtain ⟨d0,d1,rfl⟩:=hd;obtain ⟨rfl,rfl⟩:=trodVars_none hV;have hev:=least11_ev (dn:=dn) (wn:=wn) hl hw hz;have hC:=(E7 mixed allT_ok (Q2 (O:=noObjs.of)) hev).2 tU W args.toList (fun _ _ h=>h.elim) hx;rw [yS] at hC;refine hC.mono fun e W' ⟨v,he,hv,hb⟩=>?_
 have hv':v=.bool true:=hv;subst he;subst hv';exact ⟨_,rfl,nR (pa:=p) (pv:=[]) hW' (fun _ _ _=>trodAll_cons_mk (shut_bool Tryz.underlying4 _) trodAll_mk0) (sU laidOut hb hA1 (by kernel_rfl)) rfl hb⟩
theorem inhabitLeast_j0:joinA Tryz.pinned.checked.prog 6 Tryz.f6 Rows.inhabitLeastSpec Rows.inhabitLeastRow=true:=by kernel_rfl
theorem inhabitLeast_j1:joinB Tryz.pinned.checked.prog 6 Tryz.f6 Rows.inhabitLeastSpec Rows.inhabitLeastRow=true:=by kernel_rfl
theorem inhabitLeast_j2:joinC Tryz.pinned.checked.prog 6 Tryz.f6 Rows.inhabitLeastSpec Rows.inhabitLeastRow=true:=by kernel_rfl
theorem inhabitLeast_j3:joinD Tryz.pinned.checked.prog 6 Tryz.f6 Rows.inhabitLeastSpec Rows.inhabitLeastRow=true:=by kernel_rfl
theorem inhabitLeast_j4:joinE Tryz.pinned.checked.prog 6 Tryz.f6 Rows.inhabitLeastSpec Rows.inhabitLeastRow=true:=by kernel_rfl
theorem inhabitLeast_j5:joinF Tryz.pinned.checked.prog 6 Tryz.f6 Rows.inhabitLeastSpec Rows.inhabitLeastRow=true:=by kernel_rfl
theorem inhabitLeast_j6:joinG Tryz.pinned.checked.prog 6 Tryz.f6 Rows.inhabitLeastSpec Rows.inhabitLeastRow=true:=by kernel_rfl
theorem inhabitLeast_holds:Rows.InhabitLeastSaid :=
 OpenClaim.holds_of_wide 6 Tryz.f6 rfl rfl rfl rfl rfl rfl rfl ⟨rfl,rfl,rfl,rfl,rfl⟩ rfl rfl rfl rfl rfl (by kernel_rfl) Tryz.func6 (N2 inhabitLeast_j0 inhabitLeast_j1 inhabitLeast_j2 inhabitLeast_j3 inhabitLeast_j4 inhabitLeast_j5 inhabitLeast_j6)
  (of_decide_eq_true (by kernel_rfl)) (by unfold Func.isWrapper; first | (rw [if_pos (by decide +kernel)]; kernel_rfl) | (rw [if_neg (by decide +kernel)]; exact ⟨rfl,rfl⟩))
  (fun os started H enc _=>inhabitLeast_lifted os started H enc)
end Go.Proofs.YtjoaiabjebpbjaaGreat
