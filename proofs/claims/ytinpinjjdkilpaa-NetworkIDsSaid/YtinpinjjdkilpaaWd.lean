/- slices.Clone, Delete, DeleteFunc over packets -/
import Derived.Test.YtinpinjjdkilpaaWc
import Derived.Deep.RegionHeld3
import Derived.BigQuiet
namespace Go.Proofs.Ytinpinjjdkilpaa
open Go.RowKit
/-- a list in new memory -/
def FreshP (w : World) (l : List Pkt) (e : Ending) (w' : World) : Prop := ∃ v, e = .returned v ∧ POwn w' v l ∧ Below w.heap.size w w' ∧ ∀ b, v.ownBlock = some b → w.heap.size ≤ b
set_option maxHeartbeats 400000 in
theorem clone_any (av : Nat → Prop) (v : Value) (l : List Pkt) (w : World) (h : PSl av w v l) (hlen : l.length ≤ 1000) :
    Calls Try.prog 28 #[v] w (FreshP w l) := by
  obtain ⟨A, c, rfl, hc⟩ := PSl.shape h
  have hq := eqNilP
  cases A with
  | none =>
    have hl : l = [] := by
      rcases Nat.eq_zero_or_pos l.length with h0 | h0
      · exact List.eq_nil_of_length_eq_zero h0
      · obtain ⟨_, A, c, hA, _, hn⟩ := h
        injection hA with hA
        subst hA
        obtain ⟨b, off, hA, _⟩ := hn h0
        cases hA
    subst hl
    clear h
    go_enter Try.func28, Try.ntmps28
    go_wp2
    go_ret
    exact ⟨_, rfl, own_nil w, Below.refl _ _, by simp [Value.ownBlock]⟩
  | some a =>
    have H := hid h
    clear h
    go_enter Try.func28, Try.ntmps28
    go_wp2_with (at_builtin; refine wpList_appendP (av := av) rfl _ _ rfl _ _ [] l rfl rfl (own_empty (heap_alloc_new w _)) (Sl.below H.out ((Below.refl _ _).alloc (Nat.le_refl _) _)) (by simp; omega) ?_)
    intro v' w' ho hk hat
    go_wp2
    go_ret
    refine ⟨v', rfl, ho, Keep.below_of (F := fun b => w.heap.size ≤ b) (((Keep.refl _ w).alloc _).trans hk fun i hi hh => ?_) (Nat.le_refl _) (fun i h => h), fun b hb => ?_⟩
    · simp [Value.ownBlock] at hh; omega
    · rcases hat with hat | hat <;> (rw [hat] at hb; simp [Value.ownBlock] at hb; omega)
/-- a row cut down in place -/
def Cut (g : Nat) (w : World) (l : List Pkt) (e : Ending) (w' : World) : Prop := ∃ cap, e = .returned (.slice (some ⟨g, 0, none⟩) l.length cap) ∧ POwn w' (.slice (some ⟨g, 0, none⟩) l.length cap) l ∧ Keep (fun b => b = g) w w'
theorem own_cap {w : World} {g n cap : Nat} {l : List Pkt} (h : POwn w (.slice (some ⟨g, 0, none⟩) n cap) l) : n = l.length ∧ l.length ≤ cap := by
  rcases h.2 with ⟨h2, _⟩ | ⟨g', cap', cur, h3, hb, hg, hnc, hm, hs, ht⟩
  · cases h2
  · injection h3 with h4 h5 h6
    subst h6
    exact ⟨h5, hnc⟩
set_option maxHeartbeats 400000 in
theorem delete_any (g cap : Nat) (l : List Pkt) (n i : Nat) (w : World) (hn : l.length = n) (hi : i < n) (_hlen : n ≤ 1000) (h : POwn w (.slice (some ⟨g, 0, none⟩) n cap) l) :
    Calls Try.prog 42 #[.slice (some ⟨g, 0, none⟩) n cap, .int .i64 i, .int .i64 ((i : Int) + 1)] w (Cut g w (l.eraseIdx i)) := by
  have hcap : n ≤ cap := by have := (own_cap h).2; omega
  have hne : ((i : Int) == (i : Int) + 1) = false := by simp; omega
  have hsl : PSl (fun _ => False) w (.slice (some ⟨g, 0, none⟩) l.length cap) l := by rw [hn]; exact Sl.of_own h (fun _ _ h => h)
  have hd := hid (PSl.drop hsl (k := i + 1) (by omega))
  have ht : w.ownsRow 0 42 4 (.slice (some ⟨g, 0, none⟩) i cap) i (pc (l.take i)) := by rw [← pc_take]; exact own_take (n := n) (xs := pc l) (by have := h; unfold POwn at this; rwa [hn] at this) (by omega)
  have htl : (l.take i).length = i := by rw [List.length_take]; omega
  obtain ⟨tl, htl2⟩ : ∃ tl : Option Addr, tl = (if cap = i + 1 then some ⟨g, 0, none⟩ else (some (⟨g, 0, none⟩ : Addr)).map (·.add ((i + 1) * 4))) := ⟨_, rfl⟩
  rw [← htl2, hn] at hd
  have hs1 := hiP (some ⟨g, 0, none⟩) n cap i (by omega)
  have hs2 := loP (some ⟨g, 0, none⟩) n cap (i + 1) (by omega)
  rw [← htl2] at hs2
  simp only [Int.natCast_add, Int.cast_ofNat_Int] at hs2
  clear htl2
  have HT := hid ht
  have HTL := hid htl
  have HN := hid hn
  clear h hsl ht htl hn
  go_enter Try.func42, Try.ntmps42
  go_wp2_with fail
  go_region_held3 (fun _ => True) (trivial) ((refine step_appendP_fits (av := fun _ => False) rfl _ _ rfl g cap _ (l.take i) (l.drop (i + 1)) i (n - (i + 1)) HTL.out (by rw [List.length_drop, HN.out]) rfl rfl (by unfold POwn; rw [HTL.out]; exact HT.out) (by exact hd.out) (by omega) ?_; intro w1 ho hk))
  have hk1 : i + (n - (i + 1)) + 1 = n := by omega
  generalize i + (n - (i + 1)) = k at *
  have hlk : (l.take i ++ l.drop (i + 1)).length = k := (own_cap ho).1.symm
  have hel : l.eraseIdx i = l.take i ++ l.drop (i + 1) := List.eraseIdx_eq_take_drop_succ l i
  obtain ⟨t2, ht2⟩ : ∃ t2 : Option Addr, t2 = (if cap = k then some ⟨g, 0, none⟩ else (some (⟨g, 0, none⟩ : Addr)).map (·.add (k * 4))) := ⟨_, rfl⟩
  have hs3 := lhP (some ⟨g, 0, none⟩) k cap k n (by omega) (by omega)
  rw [← ht2] at hs3
  obtain ⟨w2, hclr, ho2, hk2⟩ := clearP w1 0 g n cap _ k hlk (by omega) hcap ho t2 (cap - k) (fun _ => by rw [ht2, if_neg (by omega)]; simp [Addr.add_lit])
  have HO := hid ho
  have HO2 := hid ho2
  have HL := hid hlk
  have HE := hid hel
  clear ho ho2 hlk hel ht2 hd HT hs1 hs2
  go_wp2_with fail
  go_ret
  exact ⟨cap, by rw [HE.out, HL.out]; rfl, by rw [HE.out, HL.out]; exact HO2.out, (((Keep.refl _ w).drew).trans hk (fun _ _ h => h)).trans hk2 (fun _ _ h => h)⟩
end Go.Proofs.Ytinpinjjdkilpaa
