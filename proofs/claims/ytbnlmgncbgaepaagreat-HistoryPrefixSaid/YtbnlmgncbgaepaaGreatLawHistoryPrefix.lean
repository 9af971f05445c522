/- sheavelaw24.HistoryPrefix: for every input it returns true and leaves its input as it was. No condition. -/
import Derived.Test.YtbnlmgncbgaepaaGreatYt
set_option linter.all false
open List renaming all_eq_true → y5
open Array renaming toArray_toList → yX
namespace Go.Proofs.YtbnlmgncbgaepaaGreat
open Go Go.RowKit Go.ChangeShapes Go.WideShapes Go.ChangeAt
theorem ok_law_HistoryPrefix:nA Tryz.prog 17 SL:=okF Tryz.func17
set_option maxRecDepth 100000 in
theorem historyPrefix_lifted (os:Os) (started:os.Started) (H:Type) (enc:TypeId × Value->H) :
  ReturnsInHanded {} Tryz.checked os 17 .any (Rows.historyPrefixSpec.pre6 enc Tryz.prog Tryz.f17 Rows.historyPrefixRow.domain false) (Rows.historyPrefixSpec.post enc Tryz.prog Tryz.f17 false true false false):=by
 refine returnsInHanded_of_change_sized (C:=Tryz.checked) own started (by kernel_rfl) Tryz.func17
  (ChangeSpec.witness6 (enc:=enc) (C:=Tryz.checked) false ⟨#[],#[.agg #[.slice none 0 0,.slice none 0 0,.int .u8 0],.int .u8 0],[]⟩ 8 (by kernel_rfl) (by kernel_rfl) (by kernel_rfl) (by kernel_rfl)) ?_
 intro W base args ds gs before hval0 hW hcnd ic _;have jq:∀ (j:Nat) t v,Tryz.f17.params[j]?=some t->args[j]?=some v->Value.okWide Tryz.prog W .any base t v:=hval0;have hW':=hW;obtain ⟨p,q,pm,hV,rfl,hfz,hnd⟩:=hW;have hA:DataW.TrodAll enc Tryz.prog W 0 (fun _=>true) true Tryz.f17.params.toList args.toList ds p:=pm;rw [Tryz.params17] at hA jq;have hA1:DataW.TrodAll enc Tryz.prog W 0 (fun _=>true) true [78,5] args.toList ds p:=hA;have hd:∃ d0 d1,ds=[d0,d1]:=by
  obtain ⟨_,_,d0,_,_,_,_,rfl,_,_,r0⟩:=trodAll_cons hA1;obtain ⟨_,_,d1,_,_,_,_,rfl,_,_,r1⟩:=trodAll_cons r0;obtain ⟨_,rfl,_⟩:=trodAll_nil r1;exact ⟨d0,d1,rfl⟩
 obtain ⟨d0,d1,rfl⟩:=hd;obtain ⟨xs,hx,tb⟩:=args_T (T:=M9) Q7 hA1 (fun j t v e e'=>jq j t v (by simpa using e) (by simpa using e')) (fun m hm=>of_decide_eq_true (y5.1 ic m (zT hm rfl))) (by kernel_rfl);simp only [ArgsT] at tb;obtain ⟨a0,_,rfl,t0,a1,_,rfl,t1,rfl⟩:=tb;obtain ⟨dn,l,cn,css,T,rfl,hc⟩:=histTy t0;obtain ⟨z,rfl,hz⟩:=u8Ty t1;obtain ⟨rfl,rfl⟩:=trodVars_none hV;have hev:=hprefix_ev (dn:=dn) (cn:=cn) hc hz;have hC:=(pS mixed preT_ok (preX_ok (O:=noObjs.of)) hev).2 Av0 W args.toList (fun _ _ h=>h.elim) hx;rw [yX] at hC;refine hC.mono fun e W' ⟨v,he,hv,hb⟩=>?_
 have hv':v=.bool true:=hv;subst he;subst hv';exact ⟨_,rfl,rZ (pa:=p) (pv:=[]) hW' (fun _ _ _=>trodAll_cons_mk (shut_bool Tryz.underlying4 _) trodAll_mk0) (zZ laidOut hb hA1 (by kernel_rfl)) rfl hb⟩
theorem historyPrefix_j0:joinA Tryz.pinned.checked.prog 17 Tryz.f17 Rows.historyPrefixSpec Rows.historyPrefixRow=true:=by kernel_rfl
theorem historyPrefix_j1:joinB Tryz.pinned.checked.prog 17 Tryz.f17 Rows.historyPrefixSpec Rows.historyPrefixRow=true:=by kernel_rfl
theorem historyPrefix_j2:joinC Tryz.pinned.checked.prog 17 Tryz.f17 Rows.historyPrefixSpec Rows.historyPrefixRow=true:=by kernel_rfl
theorem historyPrefix_j3:joinD Tryz.pinned.checked.prog 17 Tryz.f17 Rows.historyPrefixSpec Rows.historyPrefixRow=true:=by kernel_rfl
theorem historyPrefix_j4:joinE Tryz.pinned.checked.prog 17 Tryz.f17 Rows.historyPrefixSpec Rows.historyPrefixRow=true:=by kernel_rfl
theorem historyPrefix_j5:joinF Tryz.pinned.checked.prog 17 Tryz.f17 Rows.historyPrefixSpec Rows.historyPrefixRow=true:=by kernel_rfl
theorem historyPrefix_j6:joinG Tryz.pinned.checked.prog 17 Tryz.f17 Rows.historyPrefixSpec Rows.historyPrefixRow=true:=by kernel_rfl
theorem historyPrefix_holds:Rows.HistoryPrefixSaid :=
 OpenClaim.holds_of_wide 17 Tryz.f17 rfl rfl rfl rfl rfl rfl rfl ⟨rfl,rfl,rfl,rfl,rfl⟩ rfl rfl rfl rfl rfl (by kernel_rfl) Tryz.func17 (joined_of historyPrefix_j0 historyPrefix_j1 historyPrefix_j2 historyPrefix_j3 historyPrefix_j4 historyPrefix_j5 historyPrefix_j6)
  (of_decide_eq_true (by kernel_rfl)) (by unfold Func.isWrapper; first | (rw [if_pos (by decide +kernel)]; kernel_rfl) | (rw [if_neg (by decide +kernel)]; exact ⟨rfl,rfl⟩))
  (fun os started H enc _=>historyPrefix_lifted os started H enc)
end Go.Proofs.YtbnlmgncbgaepaaGreat
