/- sheavelaw11.InhabitFinite: for every input it returns true and leaves its input as it was. No condition. -/
import Derived.Test.YtdjomefkhdimaaaGreatKgf
set_option linter.unusedSimpArgs false
set_option linter.unusedVariables false
set_option linter.unusedSectionVars false
namespace Go.Proofs.YtdjomefkhdimaaaGreat
open Go Go.RowKit Go.ChangeShapes Go.WideShapes Go.ChangeAt
theorem ok_law_InhabitFinite:FnOk Tryz.prog 4 q16:=⟨fun xs w=>by kernel_rfl,_,Tryz.func4,by kernel_rfl⟩
set_option maxRecDepth 100000 in
theorem inhabitFinite_lifted (os:Os) (started:os.Started) (H:Type) (enc:TypeId × Value->H) :
  ReturnsInHanded {} Tryz.checked os 4 .any (Rows.inhabitFiniteSpec.pre6 enc Tryz.prog Tryz.f4 Rows.inhabitFiniteRow.domain false) (Rows.inhabitFiniteSpec.post enc Tryz.prog Tryz.f4 false true false false):=by
 refine returnsInHanded_of_change (C:=Tryz.checked) own started (by kernel_rfl) Tryz.func4
  (ChangeSpec.witness6 (enc:=enc) (C:=Tryz.checked) false ⟨#[],#[.agg #[.slice none 0 0,.slice none 0 0]],[]⟩ 8 (by kernel_rfl) (by kernel_rfl) (by kernel_rfl) (by kernel_rfl)) ?_
 intro W base args ds gs before hval0 hW hcnd _
 have hval:∀ (j:Nat) t v,Tryz.f4.params[j]?=some t->args[j]?=some v->Value.okWide Tryz.prog W .any base t v:=hval0
 have hW':=hW
 obtain ⟨p,q,hA0,hV,rfl,hfz,hnd⟩:=hW
 have hA:DataW.TrodAll enc Tryz.prog W 0 (fun _=>true) true Tryz.f4.params.toList args.toList ds p:=hA0
 rw [Tryz.params4] at hA hval
 have hA1:DataW.TrodAll enc Tryz.prog W 0 (fun _=>true) true [52] args.toList ds p:=hA
 obtain ⟨xs,hx,hty⟩:=args_rep (k:=8) hA1 (fun j t v e e'=>hval j t v (by simpa using e) (by simpa using e')) (by kernel_rfl)
 simp only [ArgsTy] at hty
 obtain ⟨a0,_,rfl,t0,rfl⟩:=hty
 obtain ⟨dn,l,wn,ws,rfl,hl,hw⟩:=looseTy t0
 have hd:∃ d0,ds=[d0]:=by
  obtain ⟨_,_,d0,_,_,_,_,rfl,_,_,r0⟩:=trodAll_cons hA1
  obtain ⟨_,rfl,_⟩:=trodAll_nil r0
  exact ⟨d0,rfl⟩
 obtain ⟨d0,rfl⟩:=hd
 obtain ⟨rfl,rfl⟩:=trodVars_none hV
 have hev:=finite11_ev (dn:=dn) (wn:=wn) hl hw
 have hC:=(ev_sound mixed allT_ok (bldExt_ok (O:=noObjs.of)) hev).2 Av0 W args.toList (fun _ _ h=>h.elim) hx
 rw [Array.toArray_toList] at hC
 refine hC.mono fun e W' ⟨v,he,hv,hb⟩=>?_
 have hv':v=.bool true:=hv
 subst he
 subst hv'
 exact ⟨_,rfl,post_of_below (pa:=p) (pv:=[]) hW' (fun _ _ _=>trodAll_cons_mk (shut_bool Tryz.underlying4 _) trodAll_mk0) (args_back laidOut hb hA1 (by kernel_rfl)) rfl hb⟩
theorem inhabitFinite_holds:Rows.InhabitFiniteSaid :=
 OpenClaim.holds_of_wide 4 Tryz.f4 rfl rfl rfl rfl rfl rfl rfl ⟨rfl,rfl,rfl,rfl,rfl⟩ rfl rfl rfl rfl rfl (by kernel_rfl) Tryz.func4 (by kernel_rfl)
  (of_decide_eq_true (by kernel_rfl)) (by unfold Func.isWrapper; first | (rw [if_pos (by decide +kernel)]; kernel_rfl) | (rw [if_neg (by decide +kernel)]; exact ⟨rfl,rfl⟩))
  (fun os started H enc _=>inhabitFinite_lifted os started H enc)
end Go.Proofs.YtdjomefkhdimaaaGreat
