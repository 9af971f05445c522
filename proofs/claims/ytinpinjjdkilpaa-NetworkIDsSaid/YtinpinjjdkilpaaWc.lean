/- find, Clone, Pending, Ready: what reads the network -/
import Derived.Test.YtinpinjjdkilpaaWb
namespace Go.Proofs.Ytinpinjjdkilpaa
open Go.RowKit
structure Net where
  n : Int
  last : Int
  l : List Pkt
  cut : List ((Int × Int) × Bool)
/-- the network in memory: its struct in block x, its map in block m, its packets' slice pk -/
def NetAt (w : World) (x m : Nat) (pk : Value) (S : Net) : Prop :=
  w.heap[x]? = some (.cells #[.int .i64 S.n, .int .i64 S.last, pk, .map (some m)] 70 (0, 0)) ∧ w.ownsRow 0 42 4 pk S.l.length (pc S.l) ∧ MapAt keP w m (S.cut.map fun p => (p.1, Value.bool p.2))
/-- its blocks -/
def NetF (x m : Nat) (pk : Value) (b : Nat) : Prop := b = x ∨ b = m ∨ pk.ownBlock = some b
section
variable {w w' : World} {x m : Nat} {pk : Value} {S : Net}
theorem NetAt.keep {F : Nat → Prop} (h : NetAt w x m pk S) (hk : Keep F w w') (hF : ∀ b, NetF x m pk b → ¬ F b) : NetAt w' x m pk S := by
  obtain ⟨h1, h2, h3⟩ := h
  exact ⟨(hk.block x (lt_of_heap h1) (hF x (.inl rfl))).trans h1, own_keep h2 hk fun b hb => hF b (.inr (.inr hb)), h3.keep hk (hF m (.inr (.inl rfl)))⟩
theorem NetAt.below (h : NetAt w x m pk S) (hk : Below w.heap.size w w') : NetAt w' x m pk S := h.keep (Keep.of_below hk (fun _ => False)) (fun _ _ h => h)
theorem NetAt.lt (h : NetAt w x m pk S) {b : Nat} (hb : NetF x m pk b) : b < w.heap.size := by
  obtain ⟨h1, h2, h3⟩ := h
  rcases hb with rfl | rfl | hb
  · exact lt_of_heap h1
  · exact h3.lt
  · exact own_lt h2 hb
theorem NetAt.ne_m (h : NetAt w x m pk S) : x ≠ m := by
  rintro rfl
  obtain ⟨h1, h2, es, c, h3, _⟩ := h
  rw [h1] at h3
  cases h3
theorem NetAt.ne_p (h : NetAt w x m pk S) : pk.ownBlock ≠ some x := own_ne h.2.1 h.1 (by intro cs f e; injection e with _ e; exact absurd e (by decide))
theorem NetAt.ne_pm (h : NetAt w x m pk S) : pk.ownBlock ≠ some m := by
  obtain ⟨h1, h2, es, c, h3, _⟩ := h
  exact own_ne h2 h3 (by intro cs f e; cases e)
theorem NetAt.sl (h : NetAt w x m pk S) {av : Nat → Prop} (hav : ∀ b, pk.ownBlock = some b → ¬ av b) : PSl av w pk S.l := Sl.of_own h.2.1 hav
theorem NetAt.c0 (h : NetAt w x m pk S) : w.cell? ⟨x, 0, none⟩ = some (.int .i64 S.n) := by rw [cell_of_row w x 0 _ _ _ h.1]; rfl
theorem NetAt.c1 (h : NetAt w x m pk S) : w.cell? ⟨x, 1, none⟩ = some (.int .i64 S.last) := by rw [cell_of_row w x 1 _ _ _ h.1]; rfl
theorem NetAt.c2 (h : NetAt w x m pk S) : w.cell? ⟨x, 2, none⟩ = some pk := by rw [cell_of_row w x 2 _ _ _ h.1]; rfl
theorem NetAt.c3 (h : NetAt w x m pk S) : w.cell? ⟨x, 3, none⟩ = some (.map (some m)) := by rw [cell_of_row w x 3 _ _ _ h.1]; rfl
theorem NetAt.fz (h : NetAt w x m pk S) (i : Nat) : w.frozen? ⟨x, i, none⟩ = false := by simp [World.frozen?, h.1]
end
/-- what idxI comes to -/
theorem idxI_cases {α : Type} (p : α → Bool) (l : List α) : (∃ i : Nat, ∃ h : i < l.length, idxI p l = i ∧ p l[i] = true ∧ l.findIdx? p = some i) ∨ (idxI p l = -1 ∧ l.findIdx? p = none) := by
  cases h : l.findIdx? p with
  | none => exact .inr ⟨by simp [idxI, h], rfl⟩
  | some i =>
    have := List.findIdx?_eq_some_iff_getElem.1 h
    exact .inl ⟨i, this.1, by simp [idxI, h], this.2.1, rfl⟩
theorem cf30 (xs : Array Value) (w : World) : (callFunc 30 xs).run Try.prog w = .ok (.enter 30 xs) w := by kernel_rfl
theorem cf43 (xs : Array Value) (w : World) : (callFunc 43 xs).run Try.prog w = .ok (.enter 43 xs) w := by kernel_rfl
theorem cf46 (xs : Array Value) (w : World) : (callFunc 46 xs).run Try.prog w = .ok (.enter 46 xs) w := by kernel_rfl

def Net.at_ (S : Net) (id : Int) : Option Nat := S.l.findIdx? (fun p => p.id == id)

set_option maxHeartbeats 400000 in
theorem find_some (x m : Nat) (pk : Value) (S : Net) (id : Int) (i : Nat) (w : World) (hN : NetAt w x m pk S) (hlen : S.l.length ≤ 100) (hi : S.at_ id = some i) :
    Calls Try.prog 41 #[.pointer (some ⟨x, 0, none⟩), .int .i64 id] w fun e w' => e = .returned (.tuple #[.int .i64 i, .int .i64 0]) ∧ Below w.heap.size w w' := by
  have hx := hN.lt (.inl rfl)
  have h2 := hN.c2
  have HI : Hid (idxI (fun p => p.id == id) S.l = i) := hid (by unfold Net.at_ at hi; simp [idxI, hi])
  have HN := hid hN
  clear hN hi
  go_enter Try.func41, Try.ntmps41
  go_wp2_with fail
  refine (index_any _ _ cf46 (fun p => p.id == id) (fun _ => False) _ pk S.l ((HN.out.below ((Below.refl _ _).alloc (Nat.le_refl _) _)).sl (fun _ _ h => h)) (by omega) ?_).mono ?_
  · intro w' hb p
    exact find1_any _ id p.id p.src p.dst p.data w' (by rw [hb.cell (p := ⟨w.heap.size, 0, none⟩) (by simp)]; simp)
  · rintro e w' ⟨rfl, hb⟩
    rw [HI.out]
    go_wp2_with fail
    go_ret2
    exact ⟨rfl, ((Below.refl _ _).alloc (Nat.le_refl _) _).trans (hb.mono (by simp))⟩
set_option maxHeartbeats 400000 in
theorem find_none (x m : Nat) (pk : Value) (S : Net) (id : Int) (w : World) (hN : NetAt w x m pk S) (hlen : S.l.length ≤ 100) (hi : S.at_ id = none) :
    Calls Try.prog 41 #[.pointer (some ⟨x, 0, none⟩), .int .i64 id] w fun e w' => e = .returned (.tuple #[.int .i64 0, .int .i64 4]) ∧ Below w.heap.size w w' := by
  have hx := hN.lt (.inl rfl)
  have h2 := hN.c2
  have HI : Hid (idxI (fun p => p.id == id) S.l = -1) := hid (by unfold Net.at_ at hi; simp [idxI, hi])
  have HN := hid hN
  clear hN hi
  go_enter Try.func41, Try.ntmps41
  go_wp2_with fail
  refine (index_any _ _ cf46 (fun p => p.id == id) (fun _ => False) _ pk S.l ((HN.out.below ((Below.refl _ _).alloc (Nat.le_refl _) _)).sl (fun _ _ h => h)) (by omega) ?_).mono ?_
  · intro w' hb p
    exact find1_any _ id p.id p.src p.dst p.data w' (by rw [hb.cell (p := ⟨w.heap.size, 0, none⟩) (by simp)]; simp)
  · rintro e w' ⟨rfl, hb⟩
    rw [HI.out]
    go_wp2_with fail
    go_ret2
    exact ⟨rfl, ((Below.refl _ _).alloc (Nat.le_refl _) _).trans (hb.mono (by simp))⟩
end Go.Proofs.Ytinpinjjdkilpaa
