import Derived.Test.YtinpinjjdkilpaaKeys
import Derived.Deep.RegionWith
import Derived.Deep.RegionHeld3
import Derived.BigQuiet
namespace Go.Proofs.Ytinpinjjdkilpaa
open Go.RowKit
set_option maxHeartbeats 400000 in
theorem node_any (b: Nat) (n i : Int) (w : World) (h : w.cell? ⟨b, 0, none⟩ = some (.int .i64 n)) :
    Calls Try.prog 39 #[.pointer (some ⟨b, 0, none⟩), .int .i64 i] w fun e w' => e = .returned (.bool (decide (0 ≤ i) && decide (i < n))) ∧ w' = w := by
  go_enter Try.func39, Try.ntmps39
  go_wp2
  all_goals (go_ret; refine ⟨?_, rfl⟩; simp; try omega)
set_option maxHeartbeats 400000 in
theorem link_any (a b : Int) (w : World) :
    Calls Try.prog 31 #[.int .i64 a, .int .i64 b] w fun e w' => e = .returned (.agg #[.int .i64 (min a b), .int .i64 (max a b)]) ∧ w' = w.alloc (.cells #[.int .i64 (min a b), .int .i64 (max a b)] 73) := by
  by_cases h : a ≤ b
  · rw [Int.min_eq_left h, Int.max_eq_right h]
    by_cases h2 : a = b
    · subst h2
      go_enter Try.func31, Try.ntmps31
      go_wp2
      go_returns
      exact ⟨rfl, rfl⟩
    · have h3 : a < b := by omega
      go_enter Try.func31, Try.ntmps31
      go_wp2
      go_returns
      exact ⟨rfl, rfl⟩
  · have h3 : b < a := by omega
    rw [Int.min_eq_right (by omega), Int.max_eq_left (by omega)]
    go_enter Try.func31, Try.ntmps31
    go_wp2
    go_returns
    exact ⟨rfl, rfl⟩
theorem upon_run {P : Program} {o : Oper} {a : Act} {K : Act → World → Prop} {Q : Exit → Act → World → Prop} {s : Sem Value} {w w' : World} {v : Value} (hr : s.run P w = .ok v w') (h : K (a.put o.dst v) w') :
    Oper.upon P o a K Q ((s.run P w).andThen fun a w' => .ok (.value a) w') := by
  rw [hr]; exact h
theorem u68 : Try.prog.underlying 68 = some (.map 73 4) := by kernel_rfl
theorem z4 (w : World) : (zeroValue 4).run Try.prog w = .ok (.bool false) w := by kernel_rfl
theorem cut_look {w : World} {m : Nat} {L : List ((Int × Int) × Value)} (h : MapAt keP w m L) (a b : Int) :
    (Instr.lookup 68 (.map (some m)) (.agg #[.int .i64 a, .int .i64 b]) false).run Try.prog w = .ok ((getA L (a, b)).getD (.bool false)) w :=
  MapAt.lookup h lawP u68 (z4 w) (a, b)
set_option maxHeartbeats 400000 in
theorem ready1_any (c x m : Nat) (p0 p1 p2 : Int) (p3 : ByteArray) (L : List ((Int × Int) × Value)) (w : World) (hc : w.cell? ⟨c, 0, none⟩ = some (.pointer (some ⟨x, 0, none⟩))) (hx : w.cell? ⟨x, 3, none⟩ = some (.map (some m))) (hm : MapAt keP w m L) :
    Calls Try.prog 30 #[.agg #[.int .i64 p0, .int .i64 p1, .int .i64 p2, .string p3], .pointer (some ⟨c, 0, none⟩)] w fun e w' => e = .returned ((getA L (min p1 p2, max p1 p2)).getD (.bool false)) ∧ Below w.heap.size w w' := by
  have hcl : c < w.heap.size := World.block_lt_of_cell? w ⟨c, 0, none⟩ hc
  have hxl : x < w.heap.size := World.block_lt_of_cell? w ⟨x, 3, none⟩ hx
  have hml := hm.lt
  have hlk : ∀ w', Below w.heap.size w w' → (Instr.lookup 68 (.map (some m)) (.agg #[.int .i64 (min p1 p2), .int .i64 (max p1 p2)]) false).run Try.prog w' = .ok ((getA L (min p1 p2, max p1 p2)).getD (.bool false)) w' :=
    fun w' hb => cut_look (hm.keep (Keep.of_below hb (fun _ => False)) (fun h => h)) _ _
  clear hm
  go_enter Try.func30, Try.ntmps30
  go_wp2_with fail
  go_region_held3 (fun w' => w'.cell? ⟨c, 0, none⟩ = some (.pointer (some ⟨x, 0, none⟩)) ∧ w'.cell? ⟨x, 3, none⟩ = some (.map (some m)) ∧ w'.cell? ⟨w.heap.size, 1, none⟩ = some (.int .i64 p1) ∧ w'.cell? ⟨w.heap.size, 2, none⟩ = some (.int .i64 p2)) (go_keep) ((first | (go_at_call 31; refine (link_any _ _ _).mono ?_; rintro e w' ⟨rfl, rfl⟩) | ((with_reducible refine upon_run (hlk _ ?hb) ?_); (case hb => go_grown); simp only [Act.put, List.setIfInBounds_toArray, List.set_cons_zero, List.set_cons_succ])))
  go_wp2
  go_ret
  exact ⟨rfl, by go_grown⟩
set_option maxHeartbeats 400000 in
theorem find1_any (c : Nat) (id p0 p1 p2 : Int) (p3 : ByteArray) (w : World) (hc : w.cell? ⟨c, 0, none⟩ = some (.int .i64 id)) :
    Calls Try.prog 46 #[.agg #[.int .i64 p0, .int .i64 p1, .int .i64 p2, .string p3], .pointer (some ⟨c, 0, none⟩)] w fun e w' => e = .returned (.bool (p0 == id)) ∧ Below w.heap.size w w' := by
  have hcl : c < w.heap.size := World.block_lt_of_cell? w ⟨c, 0, none⟩ hc
  go_enter Try.func46, Try.ntmps46
  go_wp2
  go_ret
  exact ⟨rfl, by go_grown⟩
set_option maxHeartbeats 400000 in
theorem clear1_any (c : Nat) (nd p0 p1 p2 : Int) (p3 : ByteArray) (w : World) (hc : w.cell? ⟨c, 0, none⟩ = some (.int .i64 nd)) :
    Calls Try.prog 43 #[.agg #[.int .i64 p0, .int .i64 p1, .int .i64 p2, .string p3], .pointer (some ⟨c, 0, none⟩)] w fun e w' => e = .returned (.bool (p2 == nd)) ∧ Below w.heap.size w w' := by
  have hcl : c < w.heap.size := World.block_lt_of_cell? w ⟨c, 0, none⟩ hc
  go_enter Try.func43, Try.ntmps43
  go_wp2
  go_ret
  exact ⟨rfl, by go_grown⟩
end Go.Proofs.Ytinpinjjdkilpaa
