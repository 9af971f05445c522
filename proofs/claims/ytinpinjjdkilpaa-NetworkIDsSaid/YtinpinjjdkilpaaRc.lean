/- what an operation keeps of the plain network -/
import Derived.Test.YtinpinjjdkilpaaRb
namespace Go.Proofs.Ytinpinjjdkilpaa
/-- few packets, ascending numbers, none beyond the last one -/
structure Net.Inv (S : Net) : Prop where
  len : S.l.length ≤ 64
  last : 0 ≤ S.last
  asc : S.l.Pairwise fun p q => p.id < q.id
  ids : ∀ p ∈ S.l, 1 ≤ p.id ∧ p.id ≤ S.last
theorem Net.Inv.new (n : Int) : (newNet n).Inv := ⟨by simp [newNet], by simp [newNet], by simp [newNet], by simp [newNet]⟩
theorem Net.Inv.sub {S : Net} (h : S.Inv) {l : List Pkt} (hs : l.Sublist S.l) : ({ S with l := l } : Net).Inv :=
  ⟨Nat.le_trans hs.length_le h.len, h.last, h.asc.sublist hs, fun p hp => h.ids p (hs.subset hp)⟩
/-- how many IDs an operation uses up -/
def Net.used (S S' : Net) (i e : Int) : Prop := (e = 0 → i = S.last + 1 ∧ S'.last = S.last + 1) ∧ (e ≠ 0 → S'.last = S.last)
theorem Net.put_inv {S : Net} (h : S.Inv) (a b : Int) (d : ByteArray) : (S.put a b d).1.Inv ∧ Net.used S (S.put a b d).1 (S.put a b d).2.1 (S.put a b d).2.2 := by
  unfold Net.put
  by_cases hl : S.l.length < 64
  · rw [if_pos hl]
    refine ⟨⟨?_, ?_, ?_, ?_⟩, ?_, ?_⟩
    · simp [Net.sent]; omega
    · have := h.last; simp [Net.sent]; omega
    · simp only [Net.sent]
      refine List.pairwise_append.2 ⟨h.asc, by simp, fun p hp q hq => ?_⟩
      simp at hq
      subst hq
      have := (h.ids p hp).2
      show p.id < S.last + 1
      omega
    · intro p hp
      simp only [Net.sent, List.mem_append, List.mem_cons, List.not_mem_nil, or_false] at hp ⊢
      have := h.last
      rcases hp with hp | rfl
      · have := h.ids p hp; exact ⟨by omega, by omega⟩
      · exact ⟨by show 1 ≤ S.last + 1; omega, by show S.last + 1 ≤ S.last + 1; omega⟩
    · intro _; exact ⟨rfl, rfl⟩
    · intro he; exact absurd rfl he
  · rw [if_neg hl]
    exact ⟨h, fun he => absurd (show (3 : Int) = 0 from he) (by decide), fun _ => rfl⟩
theorem Net.send_inv {S : Net} (h : S.Inv) (a b : Int) (d : ByteArray) : (S.send a b d).1.Inv ∧ Net.used S (S.send a b d).1 (S.send a b d).2.1 (S.send a b d).2.2 := by
  unfold Net.send
  by_cases hn : (S.node a && S.node b) = true
  · rw [if_pos hn]; exact Net.put_inv h a b d
  · rw [if_neg hn]; exact ⟨h, fun he => absurd (show (7 : Int) = 0 from he) (by decide), fun _ => rfl⟩
theorem Net.copy_inv {S : Net} (h : S.Inv) (id : Int) : (S.copy id).1.Inv ∧ Net.used S (S.copy id).1 (S.copy id).2.1 (S.copy id).2.2 := by
  unfold Net.copy
  cases S.at_ id with
  | none => exact ⟨h, fun he => absurd (show (4 : Int) = 0 from he) (by decide), fun _ => rfl⟩
  | some i => exact Net.put_inv h _ _ _
theorem Net.without_inv {S : Net} (h : S.Inv) (i : Nat) : (S.without i).Inv := h.sub (List.eraseIdx_sublist ..)
theorem Net.exec_inv {S : Net} (h : S.Inv) (o : Op) : (S.exec o).1.Inv ∧
    ((o.kind % 6 = 0 ∨ o.kind % 6 = 3) → Net.used S (S.exec o).1 (S.exec o).2.id (S.exec o).2.e) ∧ (¬ (o.kind % 6 = 0 ∨ o.kind % 6 = 3) → (S.exec o).1.last = S.last) := by
  unfold Net.exec
  by_cases c0 : o.kind % 6 = 0
  · rw [if_pos c0]
    have := Net.send_inv h o.a o.b o.data
    exact ⟨this.1, fun _ => this.2, fun hn => absurd (.inl c0) hn⟩
  · rw [if_neg c0]
    by_cases c1 : o.kind % 6 = 1
    · rw [if_pos c1]
      refine ⟨?_, fun hn => by omega, fun _ => ?_⟩
      · unfold Net.deliver
        cases S.at_ o.id with
        | none => exact h
        | some i =>
          dsimp only
          split
          · exact h
          · exact Net.without_inv h i
      · unfold Net.deliver
        cases S.at_ o.id with
        | none => rfl
        | some i => dsimp only; split <;> rfl
    · rw [if_neg c1]
      by_cases c2 : o.kind % 6 = 2
      · rw [if_pos c2]
        refine ⟨?_, fun hn => by omega, fun _ => ?_⟩
        · unfold Net.drop
          cases S.at_ o.id with
          | none => exact h
          | some i => exact Net.without_inv h i
        · unfold Net.drop
          cases S.at_ o.id <;> rfl
      · rw [if_neg c2]
        by_cases c3 : o.kind % 6 = 3
        · rw [if_pos c3]
          have := Net.copy_inv h o.id
          exact ⟨this.1, fun _ => this.2, fun hn => absurd (.inr c3) hn⟩
        · rw [if_neg c3]
          by_cases c4 : o.kind % 6 = 4
          · rw [if_pos c4]
            refine ⟨?_, fun hn => by omega, fun _ => ?_⟩
            · unfold Net.setCut
              split
              · exact ⟨h.len, h.last, h.asc, h.ids⟩
              · exact h
            · unfold Net.setCut
              split <;> rfl
          · rw [if_neg c4]
            refine ⟨?_, fun hn => by omega, fun _ => ?_⟩
            · unfold Net.clear
              split
              · exact h.sub List.filter_sublist
              · exact h
            · unfold Net.clear
              split <;> rfl
/-- and the last ID is at most the number of operations -/
theorem Net.exec_last {S : Net} (h : S.Inv) (o : Op) : (S.exec o).1.last ≤ S.last + 1 := by
  have ⟨_, h1, h2⟩ := Net.exec_inv h o
  by_cases c : o.kind % 6 = 0 ∨ o.kind % 6 = 3
  · have ⟨u, v⟩ := h1 c
    by_cases he : (S.exec o).2.e = 0
    · have := (u he).2; omega
    · have := v he; omega
  · have := h2 c; omega
end Go.Proofs.Ytinpinjjdkilpaa
