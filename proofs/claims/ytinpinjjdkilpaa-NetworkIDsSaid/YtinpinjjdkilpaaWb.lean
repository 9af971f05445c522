/- slices.IndexFunc, Clone over packets -/
import Derived.Test.YtinpinjjdkilpaaPlain
import Derived.Test.YtinpinjjdkilpaaWa

namespace Go.Proofs.Ytinpinjjdkilpaa
open Go.RowKit
/-- the first index at which p holds, or -1 -/
def idxI {α : Type} (p : α → Bool) (l : List α) : Int := match l.findIdx? p with | some i => i | none => -1
theorem idxI_none {α : Type} (p : α → Bool) (l : List α) (h : ∀ j (hj : j < l.length), p l[j] = false) : idxI p l = -1 := by
  have : l.findIdx? p = none := by
    rw [List.findIdx?_eq_none_iff]
    intro x hx
    obtain ⟨i, hi, rfl⟩ := List.getElem_of_mem hx
    exact h i hi
  simp [idxI, this]
theorem idxI_at {α : Type} (p : α → Bool) (l : List α) (k : Nat) (hk : k < l.length) (hp : p l[k] = true) (h : ∀ j (hj : j < k), p (l[j]'(by omega)) = false) : idxI p l = k := by
  have : l.findIdx? p = some k := by
    rw [List.findIdx?_eq_some_iff_getElem]
    exact ⟨hk, hp, fun j hj => by simp [h j hj]⟩
  simp [idxI, this]
set_option maxHeartbeats 400000 in
theorem index_any (fc : Nat) (cp : Value) (hfc : ∀ (xs : Array Value) (w : World), (callFunc fc xs).run Try.prog w = .ok (.enter fc xs) w)
    (pred : Pkt → Bool) (av : Nat → Prop) (w : World) (v : Value) (l : List Pkt) (hsl : PSl av w v l) (hlen : l.length ≤ 1000000)
    (hcall : ∀ w', Below w.heap.size w w' → ∀ p : Pkt, Calls Try.prog fc #[p.val, cp] w' fun e w'' => e = .returned (.bool (pred p)) ∧ Below w'.heap.size w' w'') :
    Calls Try.prog 44 #[v, .func (.func fc) #[] #[cp]] w fun e w' => e = .returned (.int .i64 (idxI pred l)) ∧ Below w.heap.size w w' := by
  obtain ⟨A, c, rfl, hc⟩ := PSl.shape hsl
  go_enter Try.func44, Try.ntmps44
  go_wp2
  go_loopw [8] (fun i wr => ∃ k : Nat, k ≤ l.length ∧ i = .int .i64 k ∧ Below w.heap.size w wr ∧ ∀ j (hj : j < k) (hj' : j < l.length), pred l[j] = false) (fun i _ => l.length - (intOf i).toNat)
  case atStart => exact ⟨0, by omega, rfl, Below.refl _ _, fun j hj => absurd hj (by omega)⟩
  case round =>
    obtain ⟨k, hk, rfl, hB, hno⟩ := hrel
    by_cases hlt : k < l.length
    · obtain ⟨b, off, c', hA, hbl, _, h0, h1, h2, h3⟩ := PSl.at_ (Sl.below hsl hB) hlt
      injection hA with hA _ hA'
      subst hA; subst hA'
      have HC := hid hcall
      have HN := hid hno
      clear hcall hno hsl
      by_cases hp : pred l[k] = true
      · have HP := hid hp
        clear hp
        go_wp2_with fail
        refine (HC.out wr hB l[k]).mono ?_
        rintro e w' ⟨rfl, hb'⟩
        rw [HP.out]
        go_wp2_with fail
        go_ret
        exact ⟨by rw [idxI_at pred l k hlt HP.out fun j hj => HN.out j hj (by omega)]; rfl, hB.trans (hb'.mono hB.size)⟩
      · have HP := hid (Bool.eq_false_iff.2 hp)
        clear hp
        go_wp2_with fail
        refine (HC.out wr hB l[k]).mono ?_
        rintro e w' ⟨rfl, hb'⟩
        rw [HP.out]
        go_wp2_with fail
        go_roundw
        case rel => exact ⟨k + 1, by omega, by go_num, hB.trans (hb'.mono hB.size), fun j hj hj' => by
          by_cases hjk : j = k
          · subst hjk; exact HP.out
          · exact HN.out j (by omega) hj'⟩
        case measure => simp [intOf]; omega
    · have HN := hid hno
      clear hno hcall hsl
      go_wp2
      go_ret
      exact ⟨by rw [idxI_none pred l fun j hj => HN.out j (by omega) hj]; rfl, hB⟩
end Go.Proofs.Ytinpinjjdkilpaa
