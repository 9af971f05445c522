/- sheavelaw48.NetworkIDs: for every input it returns true and leaves its input as it was. No condition. -/
import Derived.Test.YtinpinjjdkilpaaNe
namespace Go.Proofs.Ytinpinjjdkilpaa
open Go Go.RowKit Go.ChangeShapes Go.WideShapes Go.ChangeAt
/-- the functions that the machine runs -/
def idsT : Nat → Option FnC := fun f => if f = 16 then some c16 else if f = 7 then some c7 else none
theorem mixed : Try.prog.follows .mixedOrders = true := by kernel_rfl
theorem ok16 : FnOk Try.prog 16 c16 := ⟨fun xs w => by kernel_rfl, _, Try.func16, by kernel_rfl⟩
theorem ok7 : FnOk Try.prog 7 c7 := ⟨fun xs w => by kernel_rfl, _, Try.func7, by kernel_rfl⟩
theorem idsT_ok (f : Nat) (c : FnC) (h : idsT f = some c) : FnOk Try.prog f c := by
  unfold idsT at h
  split at h
  · rename_i e; subst e; injection h with h; subst h; exact ok16
  · split at h
    · rename_i e; subst e; injection h with h; subst h; exact ok7
    · cases h
theorem u8Ty {a : AV} (h : ParTy Try.prog 4 5 a) : ∃ k, a = .int .u8 k ∧ 0 ≤ k ∧ k ≤ 255 := by
  obtain ⟨sh, hs, h⟩ := h
  have hs' : shOf Try.prog 4 5 = some [.int .u8] := by kernel_rfl
  rw [hs'] at hs
  injection hs with hs
  subst hs
  rcases h with ⟨hw, _⟩ | ⟨_, h⟩
  · have hw' : wholeT Try.prog 5 = false := by kernel_rfl
    rw [hw'] at hw
    cases hw
  · simp only [TyL, TyC] at h
    obtain ⟨a, r, e, ⟨k, rfl, hk⟩, _⟩ := h
    injection e with e _
    simp only [Lit.wf, Bool.and_eq_true, decide_eq_true_eq] at hk
    have h1 : IntKind.u8.min = 0 := rfl
    have h2 : IntKind.u8.max = 255 := rfl
    exact ⟨k, e, by omega, by omega⟩
def opSh : List Cs := [.int .u8, .int .i64, .int .i64, .int .i64, .str, .bool]
theorem opTy {xs : List AV} (h : TyL opSh xs) : ∃ o : Op, xs = opC o ∧ o.ok := by
  simp only [opSh, TyL, TyC] at h
  obtain ⟨_, _, rfl, ⟨k, rfl, hk⟩, _, _, rfl, ⟨a, rfl, _⟩, _, _, rfl, ⟨b, rfl, _⟩, _, _, rfl, ⟨i, rfl, _⟩, _, _, rfl, ⟨s, rfl, _⟩, _, _, rfl, ⟨c, rfl⟩, rfl⟩ := h
  simp only [Lit.wf, Bool.and_eq_true, decide_eq_true_eq] at hk
  have h1 : IntKind.u8.min = 0 := rfl
  have h2 : IntKind.u8.max = 255 := rfl
  exact ⟨⟨k, a, b, i, s, c⟩, rfl, by show 0 ≤ k; omega, by show k ≤ 255; omega⟩
theorem opsTy {a : AV} (h : ParTy Try.prog 4 35 a) : ∃ nl L, a = opsA nl L ∧ L.length ≤ 9223372036854775807 ∧ ∀ o ∈ L, o.ok := by
  obtain ⟨sh, hs, h⟩ := h
  have hs' : shOf Try.prog 4 35 = some [.sl opSh] := by kernel_rfl
  rw [hs'] at hs
  injection hs with hs
  subst hs
  rcases h with ⟨hw, _⟩ | ⟨_, h⟩
  · have hw' : wholeT Try.prog 35 = false := by kernel_rfl
    rw [hw'] at hw
    cases hw
  · simp only [TyL, TyC] at h
    obtain ⟨a, r, e, ⟨nl, els, rfl, hle, hk⟩, _⟩ := h
    injection e with e _
    have : ∀ els : List (List AV), (∀ x ∈ els, TyL opSh x) → ∃ L : List Op, els = L.map opC ∧ ∀ o ∈ L, o.ok := fun els => by
      induction els with
      | nil => exact fun _ => ⟨[], rfl, fun _ h => by cases h⟩
      | cons x r ih =>
        intro h
        obtain ⟨o, rfl, ho⟩ := opTy (h x List.mem_cons_self)
        obtain ⟨L, rfl, hL⟩ := ih fun y hy => h y (List.mem_cons_of_mem _ hy)
        exact ⟨o :: L, rfl, fun p hp => by
          rcases List.mem_cons.1 hp with rfl | hp
          · exact ho
          · exact hL p hp⟩
    obtain ⟨L, rfl, hL⟩ := this els hk
    refine ⟨nl, L, e, ?_, hL⟩
    have : maxLen = 9223372036854775807 := rfl
    simpa [this] using hle
set_option maxRecDepth 100000 in
theorem networkIDs_lifted (os : Os) (started : os.Started) (H : Type) (enc : TypeId × Value → H) :
    ReturnsInHanded {} Try.checked os 7 .any (Rows.networkIDsSpec.pre6 enc Try.prog Try.f7 Rows.networkIDsRow.domain false) (Rows.networkIDsSpec.post enc Try.prog Try.f7 false true false false) := by
  refine returnsInHanded_of_change (C := Try.checked) own started (by kernel_rfl) Try.func7
    (ChangeSpec.witness6 (enc := enc) (C := Try.checked) false ⟨#[], #[.int .u8 0, .slice none 0 0], []⟩ 8 (by kernel_rfl) (by kernel_rfl) (by kernel_rfl) (by kernel_rfl)) ?_
  intro W base args ds gs before hval0 hW hcnd _
  have hval : ∀ (j : Nat) t v, Try.f7.params[j]? = some t → args[j]? = some v → Value.okWide Try.prog W .any base t v := hval0
  have hW' := hW
  obtain ⟨p, q, hA0, hV, rfl, hfz, hnd⟩ := hW
  have hA : DataW.TrodAll enc Try.prog W 0 (fun _ => true) true Try.f7.params.toList args.toList ds p := hA0
  rw [Try.params7] at hA hval
  have hA1 : DataW.TrodAll enc Try.prog W 0 (fun _ => true) true [5, 35] args.toList ds p := hA
  obtain ⟨xs, hx, hty⟩ := args_rep (k := 4) hA1 (fun j t v e e' => hval j t v (by simpa using e) (by simpa using e')) (by kernel_rfl)
  simp only [ArgsTy] at hty
  obtain ⟨a0, _, rfl, t0, a1, _, rfl, t1, rfl⟩ := hty
  obtain ⟨k, rfl, hk0, hk1⟩ := u8Ty t0
  obtain ⟨nl, L, rfl, hlen, hok⟩ := opsTy t1
  have hd : ∃ d0 d1, ds = [d0, d1] := by
    obtain ⟨_, _, d0, _, _, _, _, rfl, _, _, r0⟩ := trodAll_cons hA1
    obtain ⟨_, _, d1, _, _, _, _, rfl, _, _, r1⟩ := trodAll_cons r0
    obtain ⟨_, rfl, _⟩ := trodAll_nil r1
    exact ⟨d0, d1, rfl⟩
  obtain ⟨d0, d1, rfl⟩ := hd
  obtain ⟨rfl, rfl⟩ := trodVars_none hV
  have hev := ids_ev (T := idsT) rfl rfl rfl rfl rfl rfl k ⟨hk0, hk1⟩ nl L hlen hok
  have hC := (ev_sound mixed idsT_ok netExt_ok hev).2 Av0 W args.toList (fun _ _ h => h.elim) hx
  rw [Array.toArray_toList] at hC
  refine hC.mono fun e W' ⟨v, he, hv, hb⟩ => ?_
  have hv' : v = .bool true := hv
  subst he
  subst hv'
  exact ⟨_, rfl, post_of_below (pa := p) (pv := []) hW' (fun _ _ _ => trodAll_cons_mk (shut_bool Try.underlying4 _) trodAll_mk0) (args_back laidOut hb hA1 (by kernel_rfl)) rfl hb⟩
theorem networkIDs_holds : Rows.NetworkIDsSaid :=
  OpenClaim.holds_of_wide 7 Try.f7 rfl rfl rfl rfl rfl rfl rfl ⟨rfl, rfl, rfl, rfl, rfl⟩ rfl rfl rfl rfl rfl (by kernel_rfl) Try.func7 (by kernel_rfl)
    (of_decide_eq_true (by kernel_rfl)) (by unfold Func.isWrapper; first | (rw [if_pos (by decide +kernel)]; kernel_rfl) | (rw [if_neg (by decide +kernel)]; exact ⟨rfl, rfl⟩))
    (fun os started H enc _ => networkIDs_lifted os started H enc)
end Go.Proofs.Ytinpinjjdkilpaa
