/- sheavelaw48.NetworkNew: for every input it returns true and leaves its input as it was. No condition. -/
import Derived.Test.YtinpinjjdkilpaaXk
namespace Go.Proofs.Ytinpinjjdkilpaa
open Go.ChangeShapes Go.WideShapes Go.ChangeAt Go.RowKit
set_option maxHeartbeats 1000000 in
theorem networkNew_walk (n : Int) (w : World) : Calls Try.prog 3 #[.int .i64 n] w fun e w' => e = .returned (.bool true) ∧ Below w.heap.size w w' := by
  have hF := fun (w' : World) (h : w.heap.size ≤ w'.heap.size) => (fun b hb => Nat.le_trans h hb : Fresh (fun b => w.heap.size ≤ b) w')
  have HF := hid hF
  clear hF
  by_cases hr : 1 ≤ n ∧ n ≤ 20
  · go_enter Try.func3, Try.ntmps3
    go_wp2_with fail
    refine (awake_any _).mono ?_
    rintro e w1 ⟨rfl, hb⟩
    have K1 := hid hb
    clear hb
    have L1 := K1.out.size
    go_wp2_with fail
    refine (new_o (G := fun b => w.heap.size ≤ b) n (HF.out _ (by omega)) hr.1 hr.2).mono ?_
    rintro e w2 ⟨x, rfl, h, hb, hx⟩
    have H2 := hid h
    have K2 := hid ((Keep.of_below K1.out (fun _ => False)).trans (Keep.of_below hb (fun _ => False)) (fun _ _ h => h))
    clear h hb hx K1 L1
    have L2 := K2.out.size
    go_wp2_with fail
    refine (rnew_any n _).mono ?_
    rintro e w3 ⟨rfl, hb⟩
    have H3 := hid (H2.out.below hb)
    have K3 := hid (K2.out.trans_below hb)
    clear hb K2 H2 L2
    have L3 := K3.out.size
    unfold newE newSt stV
    simp only [if_pos hr]
    go_wp2_with (refine wpList_store_whole rfl 30 (.tmp 5) (.tmp 17) rfl w3.heap.size _ _ _ rfl rfl (new_at (by simp)) sizS rfl (one_s _ _ _ _ _ _ _ _) ?_)
    have k4 : Keep (fun _ => False) w3 ((w3.alloc (.cells #[.int .i64 0, .int .i64 0, .slice none 0 0, .slice none 0 0] 30)).setRow w3.heap.size #[.int .i64 n, .int .i64 1, .slice none 0 0, .slice none 0 0]) := by (repeat' (first | (with_reducible exact Keep.refl _ _) | (with_reducible assumption) | (with_reducible refine Keep.alloc ?_ _) | (with_reducible refine Keep.drew ?_) | (with_reducible refine Keep.setCell ?_ (fun h => absurd h ?_) _) | (with_reducible refine Keep.setRow ?_ (fun h => absurd h ?_) _) | go_size))
    have H4 := hid (H3.out.below k4.below)
    have K4 := hid (K3.out.trans k4 (fun _ _ h => h))
    clear k4 K3 H3 L3
    refine (pending_o H4.out (by simp [newNet])).mono ?_
    rintro e w5 ⟨v, rfl, ho, hb, hf⟩
    obtain ⟨A, c, rfl, _⟩ := PSl.shape (Sl.of_own (av := fun _ => False) ho (fun _ _ h => h))
    simp only [newNet, List.length_nil]
    have H5 := hid (H4.out.below hb)
    have K5 := hid (K4.out.trans_below hb)
    clear ho hb hf K4 H4
    go_wp2_with fail
    refine (ready_o H5.out (by simp [newNet])).mono ?_
    rintro e w6 ⟨v, rfl, ho, hb, hf⟩
    obtain ⟨A1, c1, rfl, _⟩ := PSl.shape (Sl.of_own (av := fun _ => False) ho (fun _ _ h => h))
    rw [show (newNet n).ready = [] from rfl]
    simp only [List.length_nil]
    have K6 := hid (K5.out.trans_below hb)
    clear ho hb hf K5 H5
    go_wp2_with fail
    go_ret
    exact ⟨rfl, K6.out.below⟩
  · go_enter Try.func3, Try.ntmps3
    go_wp2_with fail
    refine (awake_any _).mono ?_
    rintro e w1 ⟨rfl, hb⟩
    have K1 := hid hb
    clear hb
    go_wp2_with fail
    refine (new_bad n _ (by omega)).mono ?_
    rintro e w2 ⟨rfl, rfl⟩
    go_wp2_with fail
    refine (rnew_any n _).mono ?_
    rintro e w3 ⟨rfl, hb⟩
    have K3 := hid ((Keep.of_below K1.out (fun _ => False)).trans_below hb)
    clear hb K1
    unfold newE newSt stV
    simp only [if_neg hr]
    go_wp2_with (refine wpList_store_whole rfl 30 (.tmp 5) (.tmp 17) rfl w3.heap.size _ _ _ rfl rfl (new_at (by simp)) sizS rfl (one_s _ _ _ _ _ _ _ _) ?_)
    go_ret
    exact ⟨rfl, (K3.out.trans (show Keep (fun _ => False) w3 _ by (repeat' (first | (with_reducible exact Keep.refl _ _) | (with_reducible assumption) | (with_reducible refine Keep.alloc ?_ _) | (with_reducible refine Keep.drew ?_) | (with_reducible refine Keep.setCell ?_ (fun h => absurd h ?_) _) | (with_reducible refine Keep.setRow ?_ (fun h => absurd h ?_) _) | go_size))) (fun _ _ h => h)).below⟩
set_option maxRecDepth 100000 in
theorem networkNew_lifted (os : Os) (started : os.Started) (H : Type) (enc : TypeId × Value → H) :
    ReturnsInHanded {} Try.checked os 3 .any (Rows.networkNewSpec.pre6 enc Try.prog Try.f3 Rows.networkNewRow.domain false) (Rows.networkNewSpec.post enc Try.prog Try.f3 false true false false) := by
  refine returnsInHanded_of_change (C := Try.checked) own started (by kernel_rfl) Try.func3
    (ChangeSpec.witness6 (enc := enc) (C := Try.checked) false ⟨#[], #[.int .i64 0], []⟩ 8 (by kernel_rfl) (by kernel_rfl) (by kernel_rfl) (by kernel_rfl)) ?_
  intro W base args ds gs before hval0 hW hcnd _
  have hval : ∀ (j : Nat) t v, Try.f3.params[j]? = some t → args[j]? = some v → Value.okWide Try.prog W .any base t v := hval0
  have hW' := hW
  obtain ⟨p, q, hA0, hV, rfl, hfz, hnd⟩ := hW
  have hA : DataW.TrodAll enc Try.prog W 0 (fun _ => true) true Try.f3.params.toList args.toList ds p := hA0
  rw [Try.params3] at hA hval
  obtain ⟨v0, vs0, d0, ds0, p0, q0, hargs, rfl, rfl, h0, r0⟩ := trodAll_cons hA
  obtain ⟨rfl, rfl, rfl⟩ := trodAll_nil r0
  obtain rfl : args = #[v0] := by cases args; simp_all
  obtain ⟨rfl, rfl⟩ := trodVars_none hV
  obtain ⟨a0, rfl, rfl, rfl, w0⟩ := open_int Try.underlying3 (hval 0 3 v0 rfl rfl) h0
  clear hA0 hval0
  simp only [List.append_nil] at hW'
  refine (networkNew_walk a0 W).mono fun e W' ⟨he, hb⟩ => ?_
  subst he
  exact ⟨_, rfl, post_of_below (pa := []) (pv := []) hW' (fun _ _ _ => trodAll_cons_mk (shut_bool Try.underlying4 _) trodAll_mk0) (trodAll_cons_mk (shut_int Try.underlying3 w0) trodAll_mk0) rfl hb⟩
theorem networkNew_holds : Rows.NetworkNewSaid :=
  OpenClaim.holds_of_wide 3 Try.f3 rfl rfl rfl rfl rfl rfl rfl ⟨rfl, rfl, rfl, rfl, rfl⟩ rfl rfl rfl rfl rfl (by kernel_rfl) Try.func3 (by kernel_rfl)
    (of_decide_eq_true (by kernel_rfl)) (by unfold Func.isWrapper; first | (rw [if_pos (by decide +kernel)]; kernel_rfl) | (rw [if_neg (by decide +kernel)]; exact ⟨rfl, rfl⟩))
    (fun os started H enc _ => networkNew_lifted os started H enc)
end Go.Proofs.Ytinpinjjdkilpaa
