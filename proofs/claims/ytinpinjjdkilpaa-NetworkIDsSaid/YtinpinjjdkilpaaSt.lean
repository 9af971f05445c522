/- The document's state of the network, as plain data and in memory; node, pair, Find, IsCut of the reference -/
import Derived.Test.YtinpinjjdkilpaaWj
namespace Go.Proofs.Ytinpinjjdkilpaa
open Go.RowKit
structure St where
  n : Int
  next : Int
  l : List Pkt
  cut : List (Int × Int)
def cc (l : List (Int × Int)) : List Value := l.flatMap fun c => [.int .i64 c.1, .int .i64 c.2]
theorem cc_len (l : List (Int × Int)) : (cc l).length = l.length * 2 := by
  induction l with
  | nil => rfl
  | cons p l ih => simp only [cc, List.flatMap_cons, List.length_append, List.length_cons, List.length_nil] at ih ⊢; rw [ih]; omega
theorem cc_append (l r : List (Int × Int)) : cc (l ++ r) = cc l ++ cc r := by simp [cc]
theorem cc_get (l : List (Int × Int)) (k : Nat) (hk : k < l.length) : (cc l)[k * 2]? = some (.int .i64 (l[k]).1) ∧ (cc l)[k * 2 + 1]? = some (.int .i64 (l[k]).2) := by
  induction l generalizing k with
  | nil => simp at hk
  | cons p l ih =>
    cases k with
    | zero => exact ⟨rfl, rfl⟩
    | succ k =>
      have h := ih k (by simpa using hk)
      exact ⟨by rw [show (k + 1) * 2 = k * 2 + 2 from by omega]; exact h.1, by rw [show (k + 1) * 2 + 1 = k * 2 + 1 + 2 from by omega]; exact h.2⟩
theorem cc_one (l : List (Int × Int)) : ∀ u ∈ cc l, u.oneCell' = true := by
  intro u hu
  simp only [cc, List.mem_flatMap] at hu
  obtain ⟨p, _, hp⟩ := hu
  simp only [List.mem_cons, List.not_mem_nil, or_false] at hp
  rcases hp with rfl | rfl <;> rfl
abbrev CSl (av : Nat → Prop) (w : World) (v : Value) (l : List (Int × Int)) : Prop := Sl av w 2 v l.length (cc l)
theorem CSl.at_ {av : Nat → Prop} {w : World} {v : Value} {l : List (Int × Int)} (h : CSl av w v l) {k : Nat} (hk : k < l.length) :
    ∃ b off c, v = .slice (some ⟨b, off, none⟩) l.length c ∧ b < w.heap.size ∧ w.cell? ⟨b, off + k * 2, none⟩ = some (.int .i64 (l[k]).1) ∧ w.cell? ⟨b, off + k * 2 + 1, none⟩ = some (.int .i64 (l[k]).2) := by
  obtain ⟨hl, A, c, rfl, hc, hn⟩ := h
  obtain ⟨b, off, rfl, hb, hav, hcell⟩ := hn (by omega)
  exact ⟨b, off, c, rfl, hb, hcell (k * 2) _ (cc_get l k hk).1, hcell (k * 2 + 1) _ (cc_get l k hk).2⟩
theorem CSl.shape {av : Nat → Prop} {w : World} {v : Value} {l : List (Int × Int)} (h : CSl av w v l) : ∃ A c, v = .slice A l.length c ∧ l.length ≤ c := by
  obtain ⟨hl, A, c, rfl, hc, hn⟩ := h
  exact ⟨A, c, rfl, hc⟩
def stV (T : St) (pv cv : Value) : Value := .agg #[.int .i64 T.n, .int .i64 T.next, pv, cv]
def stO (T : St) (pv cv : Value) : Obj := .cells #[.int .i64 T.n, .int .i64 T.next, pv, cv] 30
/-- the state's two lists in memory -/
def StAt (av : Nat → Prop) (w : World) (T : St) (pv cv : Value) : Prop := PSl av w pv T.l ∧ CSl av w cv T.cut
section
variable {av av' F : Nat → Prop} {w w' : World} {T : St} {pv cv : Value}
theorem StAt.keep (h : StAt av w T pv cv) (hk : Keep F w w') (hF : ∀ b, b < w.heap.size → F b → av b) : StAt av w' T pv cv := ⟨Sl.keep h.1 hk hF, Sl.keep h.2 hk hF⟩
theorem StAt.below (h : StAt av w T pv cv) (hk : Below w.heap.size w w') : StAt av w' T pv cv := ⟨Sl.below h.1 hk, Sl.below h.2 hk⟩
theorem StAt.avoid (h : StAt av w T pv cv) (ha : ∀ b, b < w.heap.size → av' b → av b) : StAt av' w T pv cv := ⟨Sl.avoid h.1 ha, Sl.avoid h.2 ha⟩
end
def pairOf (a b : Int) : Int × Int := (min a b, max a b)
def St.node (T : St) (a : Int) : Bool := decide (0 ≤ a) && decide (a < T.n)
def St.isCut (T : St) (a b : Int) : Bool := T.cut.any fun c => c == pairOf a b
def St.find (T : St) (id : Int) : Int := idxI (fun p => p.id == id) T.l
/-- a value, nothing turned -/
def Gives (w : World) (v : Value) (e : Ending) (w' : World) : Prop := e = .returned v ∧ Below w.heap.size w w'
set_option maxHeartbeats 400000 in
theorem rnode_any (T : St) (pv cv : Value) (a : Int) (w : World) (b : Bool) (hb : T.node a = b) : Calls Try.prog 33 #[stV T pv cv, .int .i64 a] w (Gives w (.bool b)) := by
  subst hb
  unfold stV St.node
  by_cases h : 0 ≤ a
  · simp only [h, decide_true, Bool.true_and]
    go_enter Try.func33, Try.ntmps33
    go_wp2
    go_ret
    exact ⟨rfl, by go_grown⟩
  · simp only [h, decide_false, Bool.false_and]
    have h' : a < 0 := by omega
    go_enter Try.func33, Try.ntmps33
    go_wp2
    go_ret
    exact ⟨rfl, by go_grown⟩
set_option maxHeartbeats 400000 in
theorem pair_any (a b : Int) (w : World) :
    Calls Try.prog 45 #[.int .i64 a, .int .i64 b] w fun e w' => e = .returned (.agg #[.int .i64 (min a b), .int .i64 (max a b)]) ∧ w' = w.alloc (.cells #[.int .i64 (min a b), .int .i64 (max a b)] 73) := by
  by_cases h : a ≤ b
  · rw [Int.min_eq_left h, Int.max_eq_right h]
    go_enter Try.func45, Try.ntmps45
    go_wp2
    go_returns
    exact ⟨rfl, rfl⟩
  · rw [Int.min_eq_right (by omega), Int.max_eq_left (by omega)]
    go_enter Try.func45, Try.ntmps45
    go_wp2
    go_returns
    exact ⟨rfl, rfl⟩
set_option maxHeartbeats 400000 in
theorem rfind_any (av : Nat → Prop) (T : St) (pv cv : Value) (id : Int) (w : World) (h : StAt av w T pv cv) (hlen : T.l.length ≤ 1000) : Calls Try.prog 32 #[stV T pv cv, .int .i64 id] w (Gives w (.int .i64 (T.find id))) := by
  obtain ⟨A, c, rfl, _⟩ := PSl.shape h.1
  have H := hid h.1
  clear h
  unfold stV
  go_enter Try.func32, Try.ntmps32
  go_wp2
  go_loop [5] (fun i => ∃ k : Nat, k ≤ T.l.length ∧ i = .int .i64 k ∧ Hid (∀ j (hj : j < k) (hj' : j < T.l.length), (T.l[j].id == id) = false)) (fun i => T.l.length - (intOf i).toNat)
  case atStart => exact ⟨0, by omega, rfl, hid fun j hj => absurd hj (by omega)⟩
  case round =>
    obtain ⟨k, hk, rfl, hno⟩ := hrel
    by_cases hlt : k < T.l.length
    · obtain ⟨b, off, c', hA, hbl, _, h0, _, _, _⟩ := PSl.at_ H.out hlt
      injection hA with hA _ hA'
      subst hA; subst hA'
      by_cases hp : (T.l[k].id == id) = true
      · go_wp2
        go_ret
        exact ⟨by unfold St.find; rw [idxI_at _ T.l k hlt hp fun j hj => hno.out j hj (by omega)]; rfl, by go_grown⟩
      · have hp' : (T.l[k].id == id) = false := Bool.eq_false_iff.2 hp
        clear hp
        go_wp2
        go_round
        case rel => exact ⟨k + 1, by omega, by go_num, hid fun j hj hj' => by
          by_cases hjk : j = k
          · subst hjk; exact hp'
          · exact hno.out j (by omega) hj'⟩
        case measure => simp [intOf]; omega
    · go_wp2
      go_ret
      exact ⟨by unfold St.find; rw [idxI_none _ T.l fun j hj => hno.out j (by omega) hj]; rfl, by go_grown⟩
end Go.Proofs.Ytinpinjjdkilpaa
