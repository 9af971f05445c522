/- sheavelaw20.SimulateSelf: for every input it returns true and leaves its input as it was. No condition. -/
import Derived.Test.YtbnlmgncbgaepaaGreatXu
set_option linter.all false
open List renaming all_eq_true → y5
open Array renaming toArray_toList → yQ
namespace Go.Proofs.YtbnlmgncbgaepaaGreat
open Go Go.RowKit Go.ChangeShapes Go.WideShapes Go.ChangeAt
theorem ok_law_SimulateSelf:TA Tryz.prog 6 WC:=okF Tryz.func6
set_option maxRecDepth 100000 in
theorem simulateSelf_lifted (os:Os) (started:os.Started) (H:Type) (enc:TypeId × Value->H) :
  ReturnsInHanded {} Tryz.checked os 6 .any (Rows.simulateSelfSpec.pre6 enc Tryz.prog Tryz.f6 Rows.simulateSelfRow.domain false) (Rows.simulateSelfSpec.post enc Tryz.prog Tryz.f6 false true false false):=by
 refine returnsInHanded_of_change_sized (C:=Tryz.checked) own started (by kernel_rfl) Tryz.func6
  (ChangeSpec.witness6 (enc:=enc) (C:=Tryz.checked) false ⟨#[],#[.agg #[.slice none 0 0],.int .u8 0],[]⟩ 8 (by kernel_rfl) (by kernel_rfl) (by kernel_rfl) (by kernel_rfl)) ?_
 intro W base args ds gs before pm hW hcnd ac _;have bh:∀ (j:Nat) t v,Tryz.f6.params[j]?=some t->args[j]?=some v->Value.okWide Tryz.prog W .any base t v:=pm;have hW':=hW;obtain ⟨p,q,sj,hV,rfl,hfz,hnd⟩:=hW;have hA:DataW.TrodAll enc Tryz.prog W 0 (fun _=>true) true Tryz.f6.params.toList args.toList ds p:=sj;rw [Tryz.params6] at hA bh;have tr:DataW.TrodAll enc Tryz.prog W 0 (fun _=>true) true [24,5] args.toList ds p:=hA;have hd:∃ d0 d1,ds=[d0,d1]:=by
  obtain ⟨_,_,d0,_,_,_,_,rfl,_,_,r0⟩:=trodAll_cons tr;obtain ⟨_,_,d1,_,_,_,_,rfl,_,_,r1⟩:=trodAll_cons r0;obtain ⟨_,rfl,_⟩:=trodAll_nil r1;exact ⟨d0,d1,rfl⟩
 obtain ⟨d0,d1,rfl⟩:=hd;obtain ⟨xs,hx,rb⟩:=IZ (T:=bV) XO tr (fun j t v e e'=>bh j t v (by simpa using e) (by simpa using e')) (fun m hm=>of_decide_eq_true (y5.1 ac m (XL hm rfl))) (by kernel_rfl);simp only [M1] at rb;obtain ⟨a0,_,rfl,t0,a1,_,rfl,t1,rfl⟩:=rb;obtain ⟨dn,l,rfl,hxx,hl⟩:=draftTy t0;obtain ⟨z,rfl,hz⟩:=u8Ty t1;obtain ⟨rfl,rfl⟩:=trodVars_none hV;have ww:=self20_ev (dn:=dn) (fun x h=>(hxx x h).1) hz.1 hz.2;have hC:=(mR mixed E1 (T1 (O:=c7.of)) ww).2 x6 W args.toList (fun _ _ h=>h.elim) hx;rw [yQ] at hC;refine hC.mono fun e W' ⟨v,he,hv,hb⟩=>?_
 have tx:v=.bool true:=hv;subst he;subst tx;exact ⟨_,rfl,iN (pa:=p) (pv:=[]) hW' (fun _ _ _=>trodAll_cons_mk (shut_bool Tryz.underlying4 _) trodAll_mk0) (RP NZ hb tr (by kernel_rfl)) rfl hb⟩
theorem simulateSelf_j0:i4 Tryz.pinned.checked.prog 6 Tryz.f6 Rows.simulateSelfSpec Rows.simulateSelfRow=true:=by kernel_rfl
theorem simulateSelf_j1:s4 Tryz.pinned.checked.prog 6 Tryz.f6 Rows.simulateSelfSpec Rows.simulateSelfRow=true:=by kernel_rfl
theorem simulateSelf_j2:d4 Tryz.pinned.checked.prog 6 Tryz.f6 Rows.simulateSelfSpec Rows.simulateSelfRow=true:=by kernel_rfl
theorem simulateSelf_j3:j4 Tryz.pinned.checked.prog 6 Tryz.f6 Rows.simulateSelfSpec Rows.simulateSelfRow=true:=by kernel_rfl
theorem simulateSelf_j4:b4 Tryz.pinned.checked.prog 6 Tryz.f6 Rows.simulateSelfSpec Rows.simulateSelfRow=true:=by kernel_rfl
theorem simulateSelf_j5:n4 Tryz.pinned.checked.prog 6 Tryz.f6 Rows.simulateSelfSpec Rows.simulateSelfRow=true:=by kernel_rfl
theorem simulateSelf_j6:Q4 Tryz.pinned.checked.prog 6 Tryz.f6 Rows.simulateSelfSpec Rows.simulateSelfRow=true:=by kernel_rfl
theorem simulateSelf_holds:Rows.SimulateSelfSaid :=
 OpenClaim.holds_of_wide 6 Tryz.f6 rfl rfl rfl rfl rfl rfl rfl ⟨rfl,rfl,rfl,rfl,rfl⟩ rfl rfl rfl rfl rfl (by kernel_rfl) Tryz.func6 (XS simulateSelf_j0 simulateSelf_j1 simulateSelf_j2 simulateSelf_j3 simulateSelf_j4 simulateSelf_j5 simulateSelf_j6)
  (of_decide_eq_true (by kernel_rfl)) (by unfold Func.isWrapper; first | (rw [if_pos (by decide +kernel)]; kernel_rfl) | (rw [if_neg (by decide +kernel)]; exact ⟨rfl,rfl⟩))
  (fun os started H enc _=>simulateSelf_lifted os started H enc)
end Go.Proofs.YtbnlmgncbgaepaaGreat
