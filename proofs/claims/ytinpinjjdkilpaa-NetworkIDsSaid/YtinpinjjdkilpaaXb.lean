/- the fixed examples; New -/
import Derived.Test.YtinpinjjdkilpaaXa
namespace Go.Proofs.Ytinpinjjdkilpaa
open Go.RowKit
def sA : ByteArray := { data := #[97] }
def sB : ByteArray := { data := #[98] }
def n1 : Net := ⟨3, 1, [⟨1, 0, 1, sA⟩], []⟩
def n2 : Net := ⟨3, 2, [⟨1, 0, 1, sA⟩, ⟨2, 1, 2, sB⟩], []⟩
def n3 : Net := ⟨3, 2, [⟨1, 0, 1, sA⟩, ⟨2, 1, 2, sB⟩], [((0, 1), true)]⟩
def n4 : Net := ⟨3, 3, [⟨1, 0, 1, sA⟩, ⟨2, 1, 2, sB⟩, ⟨3, 0, 1, sA⟩], [((0, 1), true)]⟩
def n5 : Net := ⟨3, 3, [⟨2, 1, 2, sB⟩, ⟨3, 0, 1, sA⟩], [((0, 1), true)]⟩
def n6 : Net := ⟨3, 3, [⟨2, 1, 2, sB⟩, ⟨3, 0, 1, sA⟩], [((0, 1), false)]⟩
def n7 : Net := ⟨3, 3, [⟨2, 1, 2, sB⟩], [((0, 1), false)]⟩
theorem a1 : (newNet 3).send 0 1 sA = (n1, 1, 0) := by rfl
theorem a2 : n1.send 1 2 sB = (n2, 2, 0) := by rfl
theorem a3 : n2.setCut 1 0 true = (n3, 0) := by rfl
theorem a3r : n3.ready = [⟨2, 1, 2, sB⟩] := by rfl
theorem a4 : n3.deliver 1 = (n3, zeroP, 11) := by rfl
theorem a5 : n3.copy 1 = (n4, 3, 0) := by rfl
theorem a6 : n4.drop 1 = (n5, 0) := by rfl
theorem a7 : n5.setCut 0 1 false = (n6, 0) := by rfl
theorem a7r : n6.ready = [⟨2, 1, 2, sB⟩, ⟨3, 0, 1, sA⟩] := by rfl
theorem a8 : n6.clear 1 = (n7, 1, 0) := by rfl
set_option maxHeartbeats 1000000 in
theorem awake_any (w : World) : Calls Try.prog 11 #[] w fun e w' => e = .returned (.bool true) ∧ Below w.heap.size w w' := by
  have hF := fun (w' : World) (h : w.heap.size ≤ w'.heap.size) => (fun b hb => Nat.le_trans h hb : Fresh (fun b => w.heap.size ≤ b) w')
  have HF := hid hF
  clear hF
  go_enter Try.func11, Try.ntmps11
  go_wp2_with fail
  refine (new_o (G := fun b => w.heap.size ≤ b) 3 (HF.out _ (by simp)) (by omega) (by omega)).mono ?_
  rintro e w1 ⟨x, rfl, h, hb, hx⟩
  have H := hid h
  have HB := hid hb
  clear h hb hx
  have L1 := HB.out.size
  go_wp2_with fail
  refine (send_o 0 1 sA H.out (HF.out _ (by omega)) (by decide) (by decide) _ _ a1).mono ?_
  rintro e w2 ⟨rfl, h, hk⟩
  have H2 := hid h
  have K := hid ((Keep.of_below HB.out _).trans hk (fun _ _ h => h))
  clear h hk L1 HB H
  have L2 := K.out.size
  go_wp2_with fail
  refine (send_o 1 2 sB H2.out (HF.out _ (by omega)) (by decide) (by decide) _ _ a2).mono ?_
  rintro e w3 ⟨rfl, h, hk⟩
  have H3 := hid h
  have K3 := hid (K.out.trans hk (fun _ _ h => h))
  clear h hk L2 K H2
  have L3 := K3.out.size
  go_wp2_with fail
  refine (cut_o 1 0 true H3.out (HF.out _ (by omega)) _ a3).mono ?_
  rintro e w4 ⟨rfl, h, hk⟩
  have H4 := hid h
  have K4 := hid (K3.out.trans hk (fun _ _ h => h))
  clear h hk L3 K3 H3
  have L4 := K4.out.size
  go_wp2_with fail
  refine (ready_o H4.out (by decide)).mono ?_
  rintro e w5 ⟨v, rfl, ho, hb, hf⟩
  obtain ⟨A, c, rfl, _⟩ := PSl.shape (Sl.of_own (av := fun _ => False) ho (fun _ _ h => h))
  simp only [a3r, List.length_cons, List.length_nil, Nat.zero_add]
  have H5 := hid (H4.out.below hb)
  have K5 := hid (K4.out.trans_below hb)
  clear ho hb hf L4 K4 H4
  have L5 := K5.out.size
  go_wp2_with fail
  refine (deliver_o 1 H5.out (HF.out _ (by omega)) (by decide) _ _ a4).mono ?_
  rintro e w6 ⟨rfl, h, hk⟩
  have H6 := hid h
  have K6 := hid (K5.out.trans hk (fun _ _ h => h))
  clear h hk L5 K5 H5
  have L6 := K6.out.size
  simp only [Pkt.val]
  go_wp2_with (refine wpList_store_whole rfl 42 (.tmp 7) (.tmp 61) rfl w6.heap.size _ _ _ rfl rfl (new_at (by simp)) sizP rfl (one4 _ _ _ _) ?_)
  have K7 := hid (K6.out.trans (show Keep (fun _ => False) w6 ((w6.alloc (.cells #[.int .i64 0, .int .i64 0, .int .i64 0, .string ByteArray.empty] 42)).setRow w6.heap.size #[.int .i64 zeroP.id, .int .i64 zeroP.src, .int .i64 zeroP.dst, .string zeroP.data]) by (repeat' (first | (with_reducible exact Keep.refl _ _) | (with_reducible assumption) | (with_reducible refine Keep.alloc ?_ _) | (with_reducible refine Keep.drew ?_) | (with_reducible refine Keep.setCell ?_ (fun h => absurd h ?_) _) | (with_reducible refine Keep.setRow ?_ (fun h => absurd h ?_) _) | go_size))) (fun _ _ h => h.elim))
  have H7 := hid (H6.out.below (show Below w6.heap.size w6 ((w6.alloc (.cells #[.int .i64 0, .int .i64 0, .int .i64 0, .string ByteArray.empty] 42)).setRow w6.heap.size #[.int .i64 zeroP.id, .int .i64 zeroP.src, .int .i64 zeroP.dst, .string zeroP.data]) from Keep.below (by (repeat' (first | (with_reducible exact Keep.refl _ _) | (with_reducible assumption) | (with_reducible refine Keep.alloc ?_ _) | (with_reducible refine Keep.drew ?_) | (with_reducible refine Keep.setCell ?_ (fun h => absurd h ?_) _) | (with_reducible refine Keep.setRow ?_ (fun h => absurd h ?_) _) | go_size)))))
  have L7 := K7.out.size
  clear L6 K6 H6
  refine (copy_o 1 H7.out (HF.out _ (by omega)) (by decide) (by decide) (by decide) _ _ a5).mono ?_
  rintro e w8 ⟨rfl, h, hk⟩
  have H8 := hid h
  have K8 := hid (K7.out.trans hk (fun _ _ h => h))
  clear h hk L7 K7 H7
  have L8 := K8.out.size
  go_wp2_with fail
  refine (drop_o 1 H8.out (HF.out _ (by omega)) (by decide) _ a6).mono ?_
  rintro e w9 ⟨rfl, h, hk⟩
  have H9 := hid h
  have K9 := hid (K8.out.trans hk (fun _ _ h => h))
  clear h hk L8 K8 H8
  have L9 := K9.out.size
  go_wp2_with fail
  refine (pending_o H9.out (by decide)).mono ?_
  rintro e w10 ⟨v, rfl, ho, hb, hf⟩
  obtain ⟨A1, c1, rfl, _⟩ := PSl.shape (Sl.of_own (av := fun _ => False) ho (fun _ _ h => h))
  simp only [n5, List.length_cons, List.length_nil, Nat.zero_add]
  have H10 := hid (H9.out.below hb)
  have K10 := hid (K9.out.trans_below hb)
  clear ho hb hf L9 K9 H9
  have L10 := K10.out.size
  go_wp2_with fail
  refine (cut_o 0 1 false H10.out (HF.out _ (by omega)) _ a7).mono ?_
  rintro e w11 ⟨rfl, h, hk⟩
  have H11 := hid h
  have K11 := hid (K10.out.trans hk (fun _ _ h => h))
  clear h hk L10 K10 H10
  have L11 := K11.out.size
  go_wp2_with fail
  refine (ready_o H11.out (by decide)).mono ?_
  rintro e w12 ⟨v, rfl, ho, hb, hf⟩
  obtain ⟨A2, c2, rfl, _⟩ := PSl.shape (Sl.of_own (av := fun _ => False) ho (fun _ _ h => h))
  simp only [a7r, List.length_cons, List.length_nil, Nat.zero_add]
  have H12 := hid (H11.out.below hb)
  have K12 := hid (K11.out.trans_below hb)
  clear ho hb hf L11 K11 H11
  have L12 := K12.out.size
  go_wp2_with fail
  refine (clear_o 1 H12.out (HF.out _ (by omega)) (by decide) _ _ a8).mono ?_
  rintro e w13 ⟨rfl, h, hk⟩
  have H13 := hid h
  have K13 := hid (K12.out.trans hk (fun _ _ h => h))
  clear h hk L12 K12 H12
  have L13 := K13.out.size
  go_wp2_with fail
  refine (pending_o H13.out (by decide)).mono ?_
  rintro e w14 ⟨v, rfl, ho, hb, hf⟩
  obtain ⟨A3, c3, rfl, _⟩ := PSl.shape (Sl.of_own (av := fun _ => False) ho (fun _ _ h => h))
  simp only [n7, List.length_cons, List.length_nil, Nat.zero_add]
  have K14 := hid (K13.out.trans_below hb)
  clear ho hb hf L13 K13 H13
  go_wp2_with fail
  go_ret
  exact ⟨rfl, K14.out.below_of (Nat.le_refl _) (fun _ h => h)⟩
/-- New of the document: a state without packets, or an empty one with an error -/
theorem res_S {fn : Func} {p u : Tmp} (h : fn.results = #[.cell p 30, .tmp u]) (tmps : Array Value) (w : World) (B : Nat) (T : St) (pv cv : Value) (hp : tmps.getD p undef = .pointer (some ⟨B, 0, none⟩))
    (hB : w.heap[B]? = some (stO T pv cv)) : (results fn tmps).run Try.prog w = .ok (.tuple #[stV T pv cv, tmps.getD u undef]) w := by
  rw [results_cell_tmp h, hp]
  have aggS : (isAgg 30).run Try.prog w = .ok true w := by kernel_rfl
  have sizS : (sizeOf 30).run Try.prog w = .ok 4 w := by kernel_rfl
  simp [asAddr, load_whole w _ B _ _ _ hB aggS sizS, stV]
theorem one_s (a b : Int) (A : Option Addr) (n c : Nat) (A' : Option Addr) (n' c' : Nat) : ∀ u ∈ (#[Value.int .i64 a, .int .i64 b, .slice A n c, .slice A' n' c']).toList, u.oneCell' = true := by
  intro u hu
  simp at hu
  rcases hu with rfl | rfl | rfl | rfl <;> rfl
theorem sizS (w : World) : (sizeOf 30).run Try.prog w = .ok 4 w := by kernel_rfl
def newSt (n : Int) : St := if 1 ≤ n ∧ n ≤ 20 then ⟨n, 1, [], []⟩ else ⟨0, 0, [], []⟩
def newE (n : Int) : Int := if 1 ≤ n ∧ n ≤ 20 then 0 else 7
set_option maxHeartbeats 1000000 in
theorem rnew_any (n : Int) (w : World) : Calls Try.prog 13 #[.int .i64 n] w fun e w' => e = .returned (.tuple #[stV (newSt n) (.slice none 0 0) (.slice none 0 0), .int .i64 (newE n)]) ∧ Below w.heap.size w w' := by
  unfold newSt newE
  by_cases h1 : n < 1
  · rw [if_neg (by omega), if_neg (by omega)]
    go_enter Try.func13, Try.ntmps13
    go_wp2_with (refine wpList_store_whole rfl 30 (.tmp 2) (.tmp 10) rfl w.heap.size _ _ _ rfl rfl (new_at (by simp)) sizS rfl (one_s _ _ _ _ _ _ _ _) ?_)
    refine bodyPost_ret (res_S rfl _ _ w.heap.size ⟨0, 0, [], []⟩ _ _ rfl (setRow_heap _ w.heap.size _ _ _ _ (new_at (by simp)))) rfl ?_
    exact ⟨rfl, Keep.below (by (repeat' (first | (with_reducible exact Keep.refl _ _) | (with_reducible assumption) | (with_reducible refine Keep.alloc ?_ _) | (with_reducible refine Keep.drew ?_) | (with_reducible refine Keep.setCell ?_ (fun h => absurd h ?_) _) | (with_reducible refine Keep.setRow ?_ (fun h => absurd h ?_) _) | go_size)))⟩
  · by_cases h2 : 20 < n
    · rw [if_neg (by omega), if_neg (by omega)]
      go_enter Try.func13, Try.ntmps13
      go_wp2_with (refine wpList_store_whole rfl 30 (.tmp 2) (.tmp 10) rfl w.heap.size _ _ _ rfl rfl (new_at (by simp)) sizS rfl (one_s _ _ _ _ _ _ _ _) ?_)
      refine bodyPost_ret (res_S rfl _ _ w.heap.size ⟨0, 0, [], []⟩ _ _ rfl (setRow_heap _ w.heap.size _ _ _ _ (new_at (by simp)))) rfl ?_
      exact ⟨rfl, Keep.below (by (repeat' (first | (with_reducible exact Keep.refl _ _) | (with_reducible assumption) | (with_reducible refine Keep.alloc ?_ _) | (with_reducible refine Keep.drew ?_) | (with_reducible refine Keep.setCell ?_ (fun h => absurd h ?_) _) | (with_reducible refine Keep.setRow ?_ (fun h => absurd h ?_) _) | go_size)))⟩
    · rw [if_pos (by omega), if_pos (by omega)]
      go_enter Try.func13, Try.ntmps13
      go_wp2_with (refine wpList_store_whole rfl 30 (.tmp 2) (.tmp 12) rfl w.heap.size _ _ _ rfl rfl (new_at (by simp)) sizS rfl (one_s _ _ _ _ _ _ _ _) ?_)
      refine bodyPost_ret (res_S rfl _ _ w.heap.size ⟨n, 1, [], []⟩ _ _ rfl (setRow_heap _ w.heap.size _ _ _ _ (new_at (by simp)))) rfl ?_
      exact ⟨rfl, Keep.below (by (repeat' (first | (with_reducible exact Keep.refl _ _) | (with_reducible assumption) | (with_reducible refine Keep.alloc ?_ _) | (with_reducible refine Keep.drew ?_) | (with_reducible refine Keep.setCell ?_ (fun h => absurd h ?_) _) | (with_reducible refine Keep.setRow ?_ (fun h => absurd h ?_) _) | go_size)))⟩
end Go.Proofs.Ytinpinjjdkilpaa
