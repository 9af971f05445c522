/- do: an operation performed on the network -/
import Derived.Test.YtinpinjjdkilpaaRa
namespace Go.Proofs.Ytinpinjjdkilpaa
open Go.RowKit
/-- what do answers, and the network behind it -/
def Net.exec (S : Net) (o : Op) : Net × Res :=
  if o.kind % 6 = 0 then let r := S.send o.a o.b o.data; (r.1, ⟨r.2.1, zeroP, 0, r.2.2⟩)
  else if o.kind % 6 = 1 then let r := S.deliver o.id; (r.1, ⟨0, r.2.1, 0, r.2.2⟩)
  else if o.kind % 6 = 2 then let r := S.drop o.id; (r.1, ⟨0, zeroP, 0, r.2⟩)
  else if o.kind % 6 = 3 then let r := S.copy o.id; (r.1, ⟨r.2.1, zeroP, 0, r.2.2⟩)
  else if o.kind % 6 = 4 then let r := S.setCut o.a o.b o.cut; (r.1, ⟨0, zeroP, 0, r.2⟩)
  else let r := S.clear o.a; (r.1, ⟨0, zeroP, r.2.1, r.2.2⟩)
/-- the world in which do calls a method: its own copy of the operation, the result's box, the local's box -/
def doW (w : World) (o : Op) : World := ((w.alloc (.cells #[.int .u8 o.kind, .int .i64 o.a, .int .i64 o.b, .int .i64 o.id, .string o.data, .bool o.cut] 40)).alloc (.cells #[.int .i64 0, .int .i64 0, .int .i64 0, .int .i64 0, .string { data := #[] }, .int .i64 0, .int .i64 0] 44)).alloc (.cells #[.int .i64 0, .int .i64 0, .int .i64 0, .int .i64 0, .string { data := #[] }, .int .i64 0, .int .i64 0] 44)
/-- the network's own blocks while do's boxes stand -/
def doG (G : Nat → Prop) (N : Nat) (b : Nat) : Prop := G b ∧ (b < N ∨ N + 3 ≤ b)
/-- its boxes behind the call -/
theorem do_boxes {G : Nat → Prop} {w w1 : World} {o : Op} (hk : Keep (doG G w.heap.size) (doW w o) w1) :
    w1.heap[w.heap.size + 1]? = some (.cells #[.int .i64 0, .int .i64 0, .int .i64 0, .int .i64 0, .string { data := #[] }, .int .i64 0, .int .i64 0] 44) ∧
    w1.heap[w.heap.size + 2]? = some (.cells #[.int .i64 0, .int .i64 0, .int .i64 0, .int .i64 0, .string { data := #[] }, .int .i64 0, .int .i64 0] 44) := by
  constructor
  · refine (hk.block _ (by simp [doW]) (fun h => by have := h.2; omega)).trans ?_
    unfold doW
    exact (Below.heap_alloc _ _ _ (by simp)).trans (new_at (by simp))
  · refine (hk.block _ (by simp [doW]) (fun h => by have := h.2; omega)).trans ?_
    unfold doW
    exact new_at (by simp)
theorem do_out {G : Nat → Prop} {x : Nat} {S' : Net} {w w1 w2 : World} {o : Op} {v : Value} (hf : Fresh G w) (hN : NetO (doG G w.heap.size) x S' w1) (hk : Keep (doG G w.heap.size) (doW w o) w1) (hs : Keep (fun b => b = w.heap.size + 1 ∨ b = w.heap.size + 2) w1 w2) : MO G x w S' v (.returned v) w2 := by
  refine ⟨rfl, (hN.keep hs (fun b _ e h => by have := h.2; omega)).into (fun _ _ h => h.1), ?_⟩
  have h0 : Keep (fun _ => False) w (doW w o) := by unfold doW; (repeat' (first | (with_reducible exact Keep.refl _ _) | (with_reducible assumption) | (with_reducible refine Keep.alloc ?_ _) | (with_reducible refine Keep.drew ?_) | (with_reducible refine Keep.setCell ?_ (fun h => absurd h ?_) _) | (with_reducible refine Keep.setRow ?_ (fun h => absurd h ?_) _) | go_size))
  refine (((h0.mono (fun _ _ h => h.elim)).trans hk (G := doG G w.heap.size) (fun _ _ h => h.1)).trans hs (fun i hi h => by omega))
set_option maxHeartbeats 2000000 in
theorem do_send (G : Nat → Prop) (x : Nat) (S S' : Net) (o : Op) (i e : Int) (w : World) (hN : NetO G x S w) (hf : Fresh G w) (h0 : 0 ≤ S.last) (h1 : S.last ≤ 1000000) (hk : 0 ≤ o.kind ∧ o.kind ≤ 255) (hc : o.kind % 6 = 0) (hr : S.send o.a o.b o.data = (S', i, e)) :
    Calls Try.prog 19 #[.pointer (some ⟨x, 0, none⟩), o.val] w (MO G x w S' (resV ⟨i, zeroP, 0, e⟩)) := by
  unfold Op.val
  have hM := send_o (G := doG G w.heap.size) (w := doW w o) o.a o.b o.data ((hN.into (fun b hb h => ⟨h, .inl hb⟩)).below (by unfold doW; go_grown)) (fun b hb => by simp [doW] at hb; exact ⟨hf b (by omega), .inr (by omega)⟩) h0 h1 i e hr
  have HM := hid hM
  have HN := hid hN
  have HF := hid hf
  clear hM hN hf hr
  go_enter Try.func19, Try.ntmps19
  go_wp2_with fail
  refine HM.out.mono ?_
  rintro en w1 ⟨rfl, hn, hk⟩
  obtain ⟨b4, b5⟩ := do_boxes hk
  obtain ⟨q0, q1, q2, q3, q4, q5, q6, q7, q8⟩ := row7 b5
  have HK := hid hk
  have H1 := hid hn
  have HB := hid b4
  clear hn hk b4 b5
  go_wp2_with (refine wpList_store_whole rfl 44 (.tmp 4) (.tmp 73) rfl (w.heap.size + 1) _ _ _ rfl rfl ((Below.heap_setCell _ _ _ _ (by simp)).trans ((Below.heap_setCell _ _ _ _ (by simp)).trans HB.out)) sizR rfl (one_r _ _ _ _ _ _ _) ?_)
  refine bodyPost_ret (results_cell1 rfl _ _ (w.heap.size + 1) _ rfl (loadR (r := ⟨i, zeroP, 0, e⟩) (setRow_heap _ (w.heap.size + 1) _ _ _ _ ((Below.heap_setCell _ _ _ _ (by simp)).trans ((Below.heap_setCell _ _ _ _ (by simp)).trans HB.out))))) rfl ?_
  exact do_out HF.out H1.out HK.out (((((Keep.refl _ w1).setCell (fun _ => .inr rfl) _).setCell (fun _ => .inr rfl) _)).setRow (fun _ => .inl rfl) _)
set_option maxHeartbeats 2000000 in
theorem do_drop (G : Nat → Prop) (x : Nat) (S S' : Net) (o : Op) (e : Int) (w : World) (hN : NetO G x S w) (hf : Fresh G w) (hlen : S.l.length ≤ 100) (hk : 0 ≤ o.kind ∧ o.kind ≤ 255) (hc : o.kind % 6 = 2) (hr : S.drop o.id = (S', e)) :
    Calls Try.prog 19 #[.pointer (some ⟨x, 0, none⟩), o.val] w (MO G x w S' (resV ⟨0, zeroP, 0, e⟩)) := by
  unfold Op.val
  have hM := drop_o (G := doG G w.heap.size) (w := doW w o) o.id ((hN.into (fun b hb h => ⟨h, .inl hb⟩)).below (by unfold doW; go_grown)) (fun b hb => by simp [doW] at hb; exact ⟨hf b (by omega), .inr (by omega)⟩) hlen e hr
  have HM := hid hM
  have HN := hid hN
  have HF := hid hf
  clear hM hN hf hr
  go_enter Try.func19, Try.ntmps19
  go_wp2_with fail
  refine HM.out.mono ?_
  rintro en w1 ⟨rfl, hn, hk⟩
  obtain ⟨b4, b5⟩ := do_boxes hk
  obtain ⟨q0, q1, q2, q3, q4, q5, q6, q7, q8⟩ := row7 b5
  have HK := hid hk
  have H1 := hid hn
  have HB := hid b4
  clear hn hk b4 b5
  go_wp2_with (refine wpList_store_whole rfl 44 (.tmp 4) (.tmp 73) rfl (w.heap.size + 1) _ _ _ rfl rfl ((Below.heap_setCell _ _ _ _ (by simp)).trans (HB.out)) sizR rfl (one_r _ _ _ _ _ _ _) ?_)
  refine bodyPost_ret (results_cell1 rfl _ _ (w.heap.size + 1) _ rfl (loadR (r := ⟨0, zeroP, 0, e⟩) (setRow_heap _ (w.heap.size + 1) _ _ _ _ ((Below.heap_setCell _ _ _ _ (by simp)).trans (HB.out))))) rfl ?_
  exact do_out HF.out H1.out HK.out (((Keep.refl _ w1).setCell (fun _ => .inr rfl) _).setRow (fun _ => .inl rfl) _)
set_option maxHeartbeats 2000000 in
theorem do_copy (G : Nat → Prop) (x : Nat) (S S' : Net) (o : Op) (i e : Int) (w : World) (hN : NetO G x S w) (hf : Fresh G w) (hlen : S.l.length ≤ 100) (h0 : 0 ≤ S.last) (h1 : S.last ≤ 1000000) (hk : 0 ≤ o.kind ∧ o.kind ≤ 255) (hc : o.kind % 6 = 3) (hr : S.copy o.id = (S', i, e)) :
    Calls Try.prog 19 #[.pointer (some ⟨x, 0, none⟩), o.val] w (MO G x w S' (resV ⟨i, zeroP, 0, e⟩)) := by
  unfold Op.val
  have hM := copy_o (G := doG G w.heap.size) (w := doW w o) o.id ((hN.into (fun b hb h => ⟨h, .inl hb⟩)).below (by unfold doW; go_grown)) (fun b hb => by simp [doW] at hb; exact ⟨hf b (by omega), .inr (by omega)⟩) hlen h0 h1 i e hr
  have HM := hid hM
  have HN := hid hN
  have HF := hid hf
  clear hM hN hf hr
  go_enter Try.func19, Try.ntmps19
  go_wp2_with fail
  refine HM.out.mono ?_
  rintro en w1 ⟨rfl, hn, hk⟩
  obtain ⟨b4, b5⟩ := do_boxes hk
  obtain ⟨q0, q1, q2, q3, q4, q5, q6, q7, q8⟩ := row7 b5
  have HK := hid hk
  have H1 := hid hn
  have HB := hid b4
  clear hn hk b4 b5
  go_wp2_with (refine wpList_store_whole rfl 44 (.tmp 4) (.tmp 73) rfl (w.heap.size + 1) _ _ _ rfl rfl ((Below.heap_setCell _ _ _ _ (by simp)).trans ((Below.heap_setCell _ _ _ _ (by simp)).trans (HB.out))) sizR rfl (one_r _ _ _ _ _ _ _) ?_)
  refine bodyPost_ret (results_cell1 rfl _ _ (w.heap.size + 1) _ rfl (loadR (r := ⟨i, zeroP, 0, e⟩) (setRow_heap _ (w.heap.size + 1) _ _ _ _ ((Below.heap_setCell _ _ _ _ (by simp)).trans ((Below.heap_setCell _ _ _ _ (by simp)).trans (HB.out)))))) rfl ?_
  exact do_out HF.out H1.out HK.out ((((Keep.refl _ w1).setCell (fun _ => .inr rfl) _).setCell (fun _ => .inr rfl) _).setRow (fun _ => .inl rfl) _)
set_option maxHeartbeats 2000000 in
theorem do_cut (G : Nat → Prop) (x : Nat) (S S' : Net) (o : Op) (e : Int) (w : World) (hN : NetO G x S w) (hf : Fresh G w)  (hk : 0 ≤ o.kind ∧ o.kind ≤ 255) (hc : o.kind % 6 = 4) (hr : S.setCut o.a o.b o.cut = (S', e)) :
    Calls Try.prog 19 #[.pointer (some ⟨x, 0, none⟩), o.val] w (MO G x w S' (resV ⟨0, zeroP, 0, e⟩)) := by
  unfold Op.val
  have hM := cut_o (G := doG G w.heap.size) (w := doW w o) o.a o.b o.cut ((hN.into (fun b hb h => ⟨h, .inl hb⟩)).below (by unfold doW; go_grown)) (fun b hb => by simp [doW] at hb; exact ⟨hf b (by omega), .inr (by omega)⟩) e hr
  have HM := hid hM
  have HN := hid hN
  have HF := hid hf
  clear hM hN hf hr
  go_enter Try.func19, Try.ntmps19
  go_wp2_with fail
  refine HM.out.mono ?_
  rintro en w1 ⟨rfl, hn, hk⟩
  obtain ⟨b4, b5⟩ := do_boxes hk
  obtain ⟨q0, q1, q2, q3, q4, q5, q6, q7, q8⟩ := row7 b5
  have HK := hid hk
  have H1 := hid hn
  have HB := hid b4
  clear hn hk b4 b5
  go_wp2_with (refine wpList_store_whole rfl 44 (.tmp 4) (.tmp 73) rfl (w.heap.size + 1) _ _ _ rfl rfl ((Below.heap_setCell _ _ _ _ (by simp)).trans (HB.out)) sizR rfl (one_r _ _ _ _ _ _ _) ?_)
  refine bodyPost_ret (results_cell1 rfl _ _ (w.heap.size + 1) _ rfl (loadR (r := ⟨0, zeroP, 0, e⟩) (setRow_heap _ (w.heap.size + 1) _ _ _ _ ((Below.heap_setCell _ _ _ _ (by simp)).trans (HB.out))))) rfl ?_
  exact do_out HF.out H1.out HK.out (((Keep.refl _ w1).setCell (fun _ => .inr rfl) _).setRow (fun _ => .inl rfl) _)
set_option maxHeartbeats 2000000 in
theorem do_clear (G : Nat → Prop) (x : Nat) (S S' : Net) (o : Op) (n e : Int) (w : World) (hN : NetO G x S w) (hf : Fresh G w) (hlen : S.l.length ≤ 100) (hk : 0 ≤ o.kind ∧ o.kind ≤ 255) (hc : o.kind % 6 = 5) (hr : S.clear o.a = (S', n, e)) :
    Calls Try.prog 19 #[.pointer (some ⟨x, 0, none⟩), o.val] w (MO G x w S' (resV ⟨0, zeroP, n, e⟩)) := by
  unfold Op.val
  have hM := clear_o (G := doG G w.heap.size) (w := doW w o) o.a ((hN.into (fun b hb h => ⟨h, .inl hb⟩)).below (by unfold doW; go_grown)) (fun b hb => by simp [doW] at hb; exact ⟨hf b (by omega), .inr (by omega)⟩) hlen n e hr
  have HM := hid hM
  have HN := hid hN
  have HF := hid hf
  clear hM hN hf hr
  go_enter Try.func19, Try.ntmps19
  go_wp2_with fail
  refine HM.out.mono ?_
  rintro en w1 ⟨rfl, hn, hk⟩
  obtain ⟨b4, b5⟩ := do_boxes hk
  obtain ⟨q0, q1, q2, q3, q4, q5, q6, q7, q8⟩ := row7 b5
  have HK := hid hk
  have H1 := hid hn
  have HB := hid b4
  clear hn hk b4 b5
  go_wp2_with (refine wpList_store_whole rfl 44 (.tmp 4) (.tmp 73) rfl (w.heap.size + 1) _ _ _ rfl rfl ((Below.heap_setCell _ _ _ _ (by simp)).trans ((Below.heap_setCell _ _ _ _ (by simp)).trans (HB.out))) sizR rfl (one_r _ _ _ _ _ _ _) ?_)
  refine bodyPost_ret (results_cell1 rfl _ _ (w.heap.size + 1) _ rfl (loadR (r := ⟨0, zeroP, n, e⟩) (setRow_heap _ (w.heap.size + 1) _ _ _ _ ((Below.heap_setCell _ _ _ _ (by simp)).trans ((Below.heap_setCell _ _ _ _ (by simp)).trans (HB.out)))))) rfl ?_
  exact do_out HF.out H1.out HK.out ((((Keep.refl _ w1).setCell (fun _ => .inr rfl) _).setCell (fun _ => .inr rfl) _).setRow (fun _ => .inl rfl) _)
set_option maxHeartbeats 2000000 in
theorem do_deliver (G : Nat → Prop) (x : Nat) (S S' : Net) (o : Op) (p : Pkt) (e : Int) (w : World) (hN : NetO G x S w) (hf : Fresh G w) (hlen : S.l.length ≤ 100) (hk : 0 ≤ o.kind ∧ o.kind ≤ 255) (hc : o.kind % 6 = 1) (hr : S.deliver o.id = (S', p, e)) :
    Calls Try.prog 19 #[.pointer (some ⟨x, 0, none⟩), o.val] w (MO G x w S' (resV ⟨0, p, 0, e⟩)) := by
  unfold Op.val
  have hM := deliver_o (G := doG G w.heap.size) (w := doW w o) o.id ((hN.into (fun b hb h => ⟨h, .inl hb⟩)).below (by unfold doW; go_grown)) (fun b hb => by simp [doW] at hb; exact ⟨hf b (by omega), .inr (by omega)⟩) hlen p e hr
  have HM := hid hM
  have HN := hid hN
  have HF := hid hf
  clear hM hN hf hr
  go_enter Try.func19, Try.ntmps19
  go_wp2_with fail
  refine HM.out.mono ?_
  rintro en w1 ⟨rfl, hn, hk⟩
  obtain ⟨b4, b5⟩ := do_boxes hk
  unfold Pkt.val
  have b6 : (w1.setRow (w.heap.size + 2) #[.int .i64 0, .int .i64 p.id, .int .i64 p.src, .int .i64 p.dst, .string p.data, .int .i64 0, .int .i64 0]).heap[w.heap.size + 2]? = _ := setRow_heap _ _ _ _ _ _ b5
  obtain ⟨q0, q1, q2, q3, q4, q5, q6, q7, q8⟩ := row7 b6
  have hlt := lt_of_heap b5
  have HK := hid hk
  have H1 := hid hn
  have HB := hid b4
  have HB5 := hid b5
  clear hn hk b4 b5 b6
  go_wp2_with (first | (refine wpList_store_part rfl 42 (.tmp 42) (.tmp 40) rfl (w.heap.size + 2) 1 _ _ _ #[.int .i64 0, .int .i64 p.id, .int .i64 p.src, .int .i64 p.dst, .string p.data, .int .i64 0, .int .i64 0] rfl rfl HB5.out sizP (by simp) (one4 _ _ _ _) rfl ?_) | (refine wpList_store_whole rfl 44 (.tmp 4) (.tmp 73) rfl (w.heap.size + 1) _ _ _ rfl rfl ((Below.heap_setCell _ _ _ _ (by simp)).trans ((setRow_other _ _ _ _ (by omega)).trans HB.out)) sizR rfl (one_r _ _ _ _ _ _ _) ?_))
  refine bodyPost_ret (results_cell1 rfl _ _ (w.heap.size + 1) _ rfl (loadR (r := ⟨0, p, 0, e⟩) (setRow_heap _ (w.heap.size + 1) _ _ _ _ ((Below.heap_setCell _ _ _ _ (by simp)).trans ((setRow_other _ _ _ _ (by omega)).trans HB.out))))) rfl ?_
  exact do_out HF.out H1.out HK.out ((((Keep.refl _ w1).setRow (fun _ => .inr rfl) _).setCell (fun _ => .inr rfl) _).setRow (fun _ => .inl rfl) _)
theorem do_any (G : Nat → Prop) (x : Nat) (S : Net) (o : Op) (w : World) (hN : NetO G x S w) (hf : Fresh G w) (hlen : S.l.length ≤ 100) (h0 : 0 ≤ S.last) (h1 : S.last ≤ 1000000) (hk : 0 ≤ o.kind ∧ o.kind ≤ 255) :
    Calls Try.prog 19 #[.pointer (some ⟨x, 0, none⟩), o.val] w (MO G x w (S.exec o).1 (resV (S.exec o).2)) := by
  unfold Net.exec
  by_cases c0 : o.kind % 6 = 0
  · rw [if_pos c0]
    exact do_send G x S _ o _ _ w hN hf h0 h1 hk c0 rfl
  · rw [if_neg c0]
    by_cases c1 : o.kind % 6 = 1
    · rw [if_pos c1]
      exact do_deliver G x S _ o _ _ w hN hf hlen hk c1 rfl
    · rw [if_neg c1]
      by_cases c2 : o.kind % 6 = 2
      · rw [if_pos c2]
        exact do_drop G x S _ o _ w hN hf hlen hk c2 rfl
      · rw [if_neg c2]
        by_cases c3 : o.kind % 6 = 3
        · rw [if_pos c3]
          exact do_copy G x S _ o _ _ w hN hf hlen h0 h1 hk c3 rfl
        · rw [if_neg c3]
          by_cases c4 : o.kind % 6 = 4
          · rw [if_pos c4]
            exact do_cut G x S _ o _ w hN hf hk c4 rfl
          · rw [if_neg c4]
            exact do_clear G x S _ o _ _ w hN hf hlen hk (by omega) rfl
end Go.Proofs.Ytinpinjjdkilpaa
