/- sheavelaw20.SimulateCompatible: for every input it returns true and leaves its input as it was. No condition. -/
import Derived.Test.YtbnlmgncbgaepaaGreatXu
set_option linter.all false
open List renaming all_eq_true → y5
open Array renaming toArray_toList → yQ
namespace Go.Proofs.YtbnlmgncbgaepaaGreat
open Go Go.RowKit Go.ChangeShapes Go.WideShapes Go.ChangeAt
theorem ok_law_SimulateCompatible:TA Tryz.prog 5 iB:=okF Tryz.func5
set_option maxRecDepth 100000 in
theorem simulateCompatible_lifted (os:Os) (started:os.Started) (H:Type) (enc:TypeId × Value->H) :
  ReturnsInHanded {} Tryz.checked os 5 .any (Rows.simulateCompatibleSpec.pre6 enc Tryz.prog Tryz.f5 Rows.simulateCompatibleRow.domain false) (Rows.simulateCompatibleSpec.post enc Tryz.prog Tryz.f5 false true false false):=by
 refine returnsInHanded_of_change_sized (C:=Tryz.checked) own started (by kernel_rfl) Tryz.func5
  (ChangeSpec.witness6 (enc:=enc) (C:=Tryz.checked) false ⟨#[],#[.agg #[.slice none 0 0,.slice none 0 0,.int .u8 0,.int .u8 0]],[]⟩ 8 (by kernel_rfl) (by kernel_rfl) (by kernel_rfl) (by kernel_rfl)) ?_
 intro W base args ds gs before pm hW hcnd ac _;have bh:∀ (j:Nat) t v,Tryz.f5.params[j]?=some t->args[j]?=some v->Value.okWide Tryz.prog W .any base t v:=pm;have hW':=hW;obtain ⟨p,q,sj,hV,rfl,hfz,hnd⟩:=hW;have hA:DataW.TrodAll enc Tryz.prog W 0 (fun _=>true) true Tryz.f5.params.toList args.toList ds p:=sj;rw [Tryz.params5] at hA bh;have tr:DataW.TrodAll enc Tryz.prog W 0 (fun _=>true) true [27] args.toList ds p:=hA;have hd:∃ d0,ds=[d0]:=by
  obtain ⟨_,_,d0,_,_,_,_,rfl,_,_,r0⟩:=trodAll_cons tr;obtain ⟨_,rfl,_⟩:=trodAll_nil r0;exact ⟨d0,rfl⟩
 obtain ⟨d0,rfl⟩:=hd;obtain ⟨xs,hx,rb⟩:=IZ (T:=bV) XO tr (fun j t v e e'=>bh j t v (by simpa using e) (by simpa using e')) (fun m hm=>of_decide_eq_true (y5.1 ac m (XL hm rfl))) (by kernel_rfl);simp only [M1] at rb;obtain ⟨a0,_,rfl,t0,rfl⟩:=rb;obtain ⟨dn,l,cn,cs,T,U,rfl,hc⟩:=caseTy t0;obtain ⟨rfl,rfl⟩:=trodVars_none hV;have ww:=I3 (dn:=dn) (cn:=cn) hc;have hC:=(mR mixed E1 (T1 (O:=c7.of)) ww).2 x6 W args.toList (fun _ _ h=>h.elim) hx;rw [yQ] at hC;refine hC.mono fun e W' ⟨v,he,hv,hb⟩=>?_
 have tx:v=.bool true:=hv;subst he;subst tx;exact ⟨_,rfl,iN (pa:=p) (pv:=[]) hW' (fun _ _ _=>trodAll_cons_mk (shut_bool Tryz.underlying4 _) trodAll_mk0) (RP NZ hb tr (by kernel_rfl)) rfl hb⟩
theorem simulateCompatible_j0:i4 Tryz.pinned.checked.prog 5 Tryz.f5 Rows.simulateCompatibleSpec Rows.simulateCompatibleRow=true:=by kernel_rfl
theorem simulateCompatible_j1:s4 Tryz.pinned.checked.prog 5 Tryz.f5 Rows.simulateCompatibleSpec Rows.simulateCompatibleRow=true:=by kernel_rfl
theorem simulateCompatible_j2:d4 Tryz.pinned.checked.prog 5 Tryz.f5 Rows.simulateCompatibleSpec Rows.simulateCompatibleRow=true:=by kernel_rfl
theorem simulateCompatible_j3:j4 Tryz.pinned.checked.prog 5 Tryz.f5 Rows.simulateCompatibleSpec Rows.simulateCompatibleRow=true:=by kernel_rfl
theorem simulateCompatible_j4:b4 Tryz.pinned.checked.prog 5 Tryz.f5 Rows.simulateCompatibleSpec Rows.simulateCompatibleRow=true:=by kernel_rfl
theorem simulateCompatible_j5:n4 Tryz.pinned.checked.prog 5 Tryz.f5 Rows.simulateCompatibleSpec Rows.simulateCompatibleRow=true:=by kernel_rfl
theorem simulateCompatible_j6:Q4 Tryz.pinned.checked.prog 5 Tryz.f5 Rows.simulateCompatibleSpec Rows.simulateCompatibleRow=true:=by kernel_rfl
theorem simulateCompatible_holds:Rows.SimulateCompatibleSaid :=
 OpenClaim.holds_of_wide 5 Tryz.f5 rfl rfl rfl rfl rfl rfl rfl ⟨rfl,rfl,rfl,rfl,rfl⟩ rfl rfl rfl rfl rfl (by kernel_rfl) Tryz.func5 (XS simulateCompatible_j0 simulateCompatible_j1 simulateCompatible_j2 simulateCompatible_j3 simulateCompatible_j4 simulateCompatible_j5 simulateCompatible_j6)
  (of_decide_eq_true (by kernel_rfl)) (by unfold Func.isWrapper; first | (rw [if_pos (by decide +kernel)]; kernel_rfl) | (rw [if_neg (by decide +kernel)]; exact ⟨rfl,rfl⟩))
  (fun os started H enc _=>simulateCompatible_lifted os started H enc)
end Go.Proofs.YtbnlmgncbgaepaaGreat
