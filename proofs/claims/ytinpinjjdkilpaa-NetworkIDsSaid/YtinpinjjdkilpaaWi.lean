/- New, Cut, Deliver -/
import Derived.Test.YtinpinjjdkilpaaWh
namespace Go.Proofs.Ytinpinjjdkilpaa
open Go.RowKit
def newNet (n : Int) : Net := { n := n, last := 0, l := [], cut := [] }
set_option maxHeartbeats 400000 in
theorem new_bad (n : Int) (w : World) (h : n < 1 ∨ 20 < n) : Calls Try.prog 12 #[.int .i64 n] w fun e w' => e = .returned (.tuple #[.pointer none, .int .i64 7]) ∧ w' = w := by
  rcases h with h | h
  · go_enter Try.func12, Try.ntmps12
    go_wp2
    go_ret2
    exact ⟨rfl, rfl⟩
  · have h' : ¬ n < 1 := by omega
    go_enter Try.func12, Try.ntmps12
    go_wp2
    go_ret2
    exact ⟨rfl, rfl⟩
set_option maxHeartbeats 400000 in
theorem new_any (n : Int) (w : World) (h1 : 1 ≤ n) (h2 : n ≤ 20) : Calls Try.prog 12 #[.int .i64 n] w fun e w' =>
    e = .returned (.tuple #[.pointer (some ⟨w.heap.size + 1, 0, none⟩), .int .i64 0]) ∧ NetAt w' (w.heap.size + 1) w.heap.size (.slice none 0 0) (newNet n) ∧ Below w.heap.size w w' := by
  have hmm := @run_makeMap Try.prog
  go_enter Try.func12, Try.ntmps12
  go_wp2
  go_ret2
  refine ⟨rfl, ⟨new_at (by simp), own_nil _, ⟨#[], 0, ?_, rfl⟩⟩, by go_grown⟩
  exact (Below.heap_alloc _ _ _ (by simp)).trans (new_at rfl)
theorem upon_unit {P : Program} {o : Oper} {a : Act} {K : Act → World → Prop} {Q : Exit → Act → World → Prop} {s : Sem Unit} {w : World} {Φ : World → Prop} (hr : ∃ w', s.run P w = .ok () w' ∧ Φ w') (h : ∀ w', Φ w' → K (a.put o.dst undef) w') :
    Oper.upon P o a K Q ((s.run P w).andThen fun _ w' => .ok .skip w') := by
  obtain ⟨w', h1, h2⟩ := hr
  rw [h1]
  exact h w' h2
theorem setA_map {κ α β : Type} [DecidableEq κ] (f : α → β) (l : List (κ × α)) (k : κ) (v : α) : (setA l k v).map (fun p => (p.1, f p.2)) = setA (l.map fun p => (p.1, f p.2)) k (f v) := by
  induction l with
  | nil => rfl
  | cons p l ih =>
    simp only [List.map_cons, setA]
    by_cases h : k = p.1 <;> simp [h, ih]
theorem cut_up {w : World} {m : Nat} {L : List ((Int × Int) × Bool)} (h : MapAt keP w m (L.map fun p => (p.1, Value.bool p.2))) (a b : Int) (c : Bool) :
    ∃ w', (Instr.mapUpdate 68 (.map (some m)) (.agg #[.int .i64 a, .int .i64 b]) (.bool c)).run Try.prog w = .ok () w' ∧ (MapAt keP w' m ((setA L (a, b) c).map fun p => (p.1, Value.bool p.2)) ∧ Keep (fun b => b = m) w w') := by
  obtain ⟨es, clock, h1, h2⟩ := MapAt.update h lawP u68 (a, b) (.bool c)
  exact ⟨_, h1, by rw [setA_map]; exact MapAt.set_ h.lt h2, (Keep.refl (fun b => b = m) w).setObj rfl _⟩
theorem cut_done {x m : Nat} {pk : Value} {S : Net} {w w1 w2 : World} {L : List ((Int × Int) × Bool)} (hN : NetAt w x m pk S) (hb : Below w.heap.size w w1) (hm : MapAt keP w2 m (L.map fun p => (p.1, Value.bool p.2))) (hk : Keep (fun b => b = m) w1 w2) :
    ∃ pk', NetAt w2 x m pk' { S with cut := L } ∧ Keep (NetF x m pk) w w2 ∧ ∀ b, pk'.ownBlock = some b → pk.ownBlock = some b ∨ w.heap.size ≤ b := by
  have hN1 := hN.below hb
  exact ⟨pk, ⟨(hk.block x (hN1.lt (.inl rfl)) hN.ne_m).trans hN1.1, own_keep hN1.2.1 hk (fun b h e => hN.ne_pm (e ▸ h)), hm⟩, (Keep.of_below hb _).trans hk (fun _ _ h => .inr (.inl h)), fun _ h => .inl h⟩
set_option maxHeartbeats 400000 in
theorem cut_any (x m : Nat) (pk : Value) (S : Net) (a b : Int) (c : Bool) (w : World) (hN : NetAt w x m pk S) :
    Calls Try.prog 21 #[.pointer (some ⟨x, 0, none⟩), .int .i64 a, .int .i64 b, .bool c] w (Meth x m pk w (S.setCut a b c).1 (.int .i64 (S.setCut a b c).2)) := by
  have HN := hid hN
  have c3 := hN.c3
  have hxl := hN.lt (.inl rfl)
  clear hN
  unfold Net.setCut
  cases ha : S.node a with
  | false =>
    have HA := hid (node_val x m pk S a false w HN.out ha)
    clear ha
    simp only [Bool.false_and, Bool.false_eq_true, if_false]
    go_enter Try.func21, Try.ntmps21
    go_wp2_with fail
    refine HA.out.mono ?_
    rintro e w' ⟨rfl, rfl⟩
    go_wp2_with fail
    go_ret
    exact meth_same HN.out (Below.refl _ _) rfl
  | true =>
    have HA := hid (node_val x m pk S a true w HN.out ha)
    clear ha
    cases hb : S.node b with
    | false =>
      have HB := hid (node_val x m pk S b false w HN.out hb)
      clear hb
      simp only [Bool.false_and, Bool.and_false, Bool.false_eq_true, if_false]
      go_enter Try.func21, Try.ntmps21
      go_wp2_with fail
      refine HA.out.mono ?_
      rintro e w' ⟨rfl, rfl⟩
      go_wp2_with fail
      refine HB.out.mono ?_
      rintro e w' ⟨rfl, rfl⟩
      go_wp2_with fail
      go_ret
      exact meth_same HN.out (Below.refl _ _) rfl
    | true =>
      have HB := hid (node_val x m pk S b true w HN.out hb)
      clear hb
      by_cases hab : a = b
      · subst hab
        simp only [decide_true, Bool.not_true, Bool.and_false, Bool.false_eq_true, if_false]
        have haa : (a == a) = true := by simp
        go_enter Try.func21, Try.ntmps21
        go_wp2_with fail
        refine HA.out.mono ?_
        rintro e w' ⟨rfl, rfl⟩
        go_wp2_with fail
        refine HB.out.mono ?_
        rintro e w' ⟨rfl, rfl⟩
        go_wp2_with fail
        go_ret
        exact meth_same HN.out (Below.refl _ _) rfl
      · simp only [hab, decide_false, Bool.not_false, Bool.and_self, if_true]
        have haa : (a == b) = false := by simpa using hab
        have HNE := hid HN.out.ne_m
        clear hab
        go_enter Try.func21, Try.ntmps21
        go_wp2_with fail
        refine HA.out.mono ?_
        rintro e w' ⟨rfl, rfl⟩
        go_wp2_with fail
        refine HB.out.mono ?_
        rintro e w' ⟨rfl, rfl⟩
        go_wp2_with fail
        go_region_held3 (fun w' => w'.cell? ⟨x, 3, none⟩ = some (.map (some m))) ((first | go_keep | exact (hw2.2).at_ (by go_simp) (fun h => HNE.out h))) ((first | (go_at_call 31; refine (link_any _ _ _).mono ?_; rintro e w' ⟨rfl, rfl⟩) | ((with_reducible refine upon_unit (cut_up (L := S.cut) ?hm _ _ _) ?_); (case hm => exact (HN.out.below (by go_grown)).2.2); intro w2 hw2)))
        go_wp2_with fail
        go_ret
        exact ⟨rfl, cut_done HN.out (by go_grown) hw2.1 hw2.2⟩
end Go.Proofs.Ytinpinjjdkilpaa
