/- IsCut, Ready, Same, New of the reference -/
import Derived.Test.YtinpinjjdkilpaaSt
namespace Go.Proofs.Ytinpinjjdkilpaa
open Go.RowKit
theorem eqArr (a b c e : Int) (w : World) : (Op.equalIn 10000 73 (.agg #[.int .i64 a, .int .i64 b]) (.agg #[.int .i64 c, .int .i64 e])).run Try.prog w = .ok (decide ((a, b) = (c, e))) w := by
  rw [eqP]
  congr 1
  rw [Bool.eq_iff_iff]
  simp
theorem st_cell {w : World} {B : Nat} {T : St} {pv cv : Value} (h : w.heap[B]? = some (stO T pv cv)) :
    w.cell? ⟨B, 0, none⟩ = some (.int .i64 T.n) ∧ w.cell? ⟨B, 1, none⟩ = some (.int .i64 T.next) ∧ w.cell? ⟨B, 2, none⟩ = some pv ∧ w.cell? ⟨B, 3, none⟩ = some cv ∧ B < w.heap.size ∧ ∀ i, w.frozen? ⟨B, i, none⟩ = false :=
  ⟨cell_of_row w B 0 _ _ _ h, cell_of_row w B 1 _ _ _ h, cell_of_row w B 2 _ _ _ h, cell_of_row w B 3 _ _ _ h, lt_of_heap h, fun i => by simp [World.frozen?, h, stO]⟩
set_option maxHeartbeats 400000 in
theorem iscut_any (av : Nat → Prop) (T : St) (pv cv : Value) (x y : Int) (b : Bool) (w : World) (h : StAt av w T pv cv) (hlen : T.cut.length ≤ 1000) (hb : T.isCut x y = b) :
    Calls Try.prog 36 #[stV T pv cv, .int .i64 x, .int .i64 y] w (Gives w (.bool b)) := by
  subst hb
  obtain ⟨A, c, rfl, _⟩ := CSl.shape h.2
  have H := hid h.2
  clear h
  unfold stV
  go_enter Try.func36, Try.ntmps36
  go_wp2_with fail
  go_loopw [7] (fun i wr => ∃ k : Nat, k ≤ T.cut.length ∧ i = .int .i64 k ∧ Below w.heap.size w wr ∧ wr.heap[w.heap.size]? = some (stO T pv (.slice A T.cut.length c)) ∧ Hid (∀ j (hj : j < k) (hj' : j < T.cut.length), (T.cut[j] == pairOf x y) = false)) (fun i _ => T.cut.length - (intOf i).toNat)
  case atStart => exact ⟨0, by omega, rfl, by go_grown, new_at rfl, hid fun j hj => absurd hj (by omega)⟩
  case round =>
    obtain ⟨k, hk, rfl, hB, hbx, hno⟩ := hrel
    obtain ⟨q0, q1, q2, q3, q4, q5⟩ := st_cell hbx
    have HBX := hid hbx
    have HB := hid hB
    clear hbx hB q0 q1 q2 q5
    by_cases hlt : k < T.cut.length
    · obtain ⟨b, off, c', hA, hbl, h0, h1⟩ := CSl.at_ (Sl.below H.out HB.out) hlt
      injection hA with hA _ hA'
      subst hA; subst hA'
      cases hp : (T.cut[k] == pairOf x y) with
      | true =>
        have heq : ∀ w', (Op.equalIn 10000 73 (.agg #[.int .i64 (T.cut[k]).1, .int .i64 (T.cut[k]).2]) (.agg #[.int .i64 (min x y), .int .i64 (max x y)])).run Try.prog w' = .ok true w' := fun w' => by
          rw [eqArr]; have := beq_iff_eq.1 hp; congr 1; exact decide_eq_true this
        have HP := hid hp
        clear hp
        go_wp2_with fail
        go_region_held3 (fun w' => w'.cell? ⟨w.heap.size, 3, none⟩ = some (.slice (some ⟨b, off, none⟩) T.cut.length c) ∧ w'.cell? ⟨b, off + k * 2, none⟩ = some (.int .i64 (T.cut[k]).1) ∧ w'.cell? ⟨b, off + k * 2 + 1, none⟩ = some (.int .i64 (T.cut[k]).2)) (go_keep) ((first | (go_at_call 45; refine (pair_any _ _ _).mono ?_; rintro e w' ⟨rfl, rfl⟩)))
        go_wp2_with fail
        go_ret
        refine ⟨?_, (HB.out.trans (((Below.refl _ wr).alloc (Nat.le_refl _) _).mono HB.out.size)).drew⟩
        have : T.isCut x y = true := by
          unfold St.isCut
          rw [List.any_eq_true]
          exact ⟨T.cut[k], List.getElem_mem hlt, HP.out⟩
        rw [this]
        rfl
      | false =>
        have heq : ∀ w', (Op.equalIn 10000 73 (.agg #[.int .i64 (T.cut[k]).1, .int .i64 (T.cut[k]).2]) (.agg #[.int .i64 (min x y), .int .i64 (max x y)])).run Try.prog w' = .ok false w' := fun w' => by
          rw [eqArr]; have := beq_eq_false_iff_ne.1 hp; congr 1; exact decide_eq_false this
        have HP := hid hp
        clear hp
        go_wp2_with fail
        go_region_held3 (fun w' => w'.cell? ⟨w.heap.size, 3, none⟩ = some (.slice (some ⟨b, off, none⟩) T.cut.length c) ∧ w'.cell? ⟨b, off + k * 2, none⟩ = some (.int .i64 (T.cut[k]).1) ∧ w'.cell? ⟨b, off + k * 2 + 1, none⟩ = some (.int .i64 (T.cut[k]).2)) (go_keep) ((first | (go_at_call 45; refine (pair_any _ _ _).mono ?_; rintro e w' ⟨rfl, rfl⟩)))
        go_wp2_with fail
        go_roundw
        case rel => exact ⟨k + 1, by omega, by go_num, (HB.out.trans (((Below.refl _ wr).alloc (Nat.le_refl _) _).mono HB.out.size)).drew, (Below.heap_alloc wr _ _ q4).trans HBX.out, hid fun j hj hj' => by
          by_cases hjk : j = k
          · subst hjk; exact HP.out
          · exact hno.out j (by omega) hj'⟩
        case measure => simp [intOf]; omega
    · go_wp2_with fail
      go_ret
      refine ⟨?_, HB.out⟩
      have : T.isCut x y = false := by
        unfold St.isCut
        rw [List.any_eq_false]
        intro z hz
        obtain ⟨j, hj, rfl⟩ := List.getElem_of_mem hz
        simp [hno.out j (by omega) hj]
      rw [this]
      rfl
def St.ready (T : St) : List Pkt := T.l.filter fun p => !T.isCut p.src p.dst
/-- what holds at the head of a round that collects packets -/
def Coll (w : World) (v : Value) (l : List Pkt) (wr : World) : Prop := POwn wr v l ∧ Below w.heap.size w wr ∧ ∀ b, v.ownBlock = some b → w.heap.size < b
theorem coll_step {w wr w1 w2 w3 : World} {v v' : Value} {l r : List Pkt} {o : Obj} (h : Coll w v l wr) (hb : Below wr.heap.size wr w1) (hbx : w.heap.size < wr.heap.size) (ho : POwn w3 v' (l ++ r)) (hk : Keep (fun b => v.ownBlock = some b) (w1.alloc o) w3) (hat : v'.ownBlock = v.ownBlock ∨ v'.ownBlock = some (w1.heap.size + 1)) (hw : w2 = w3) : Coll w v' (l ++ r) w2 ∧ w2.heap[w.heap.size]? = wr.heap[w.heap.size]? := by
  subst hw
  obtain ⟨_, h2, h3⟩ := h
  have hs := hb.size
  have k1 : Keep (fun b => w.heap.size < b) w w2 := ((Keep.of_below h2 _).trans ((Keep.of_below hb _).alloc o) (fun _ _ h => h)).trans hk (fun i _ h => h3 i h)
  refine ⟨⟨ho, Keep.below_of k1 (Nat.le_refl _) (fun i h => by omega), fun b hb' => ?_⟩, ?_⟩
  · rcases hat with e | e <;> rw [e] at hb'
    · exact h3 b hb'
    · injection hb' with e1; omega
  · rw [hk.block _ (by simp; omega) (fun e => by have := h3 _ e; omega), Below.heap_alloc _ _ _ (by omega), hb.block _ hbx]
set_option maxHeartbeats 1000000 in
theorem rready_any (av : Nat → Prop) (T : St) (pv cv : Value) (w : World) (h : StAt av w T pv cv) (hl : T.l.length ≤ 1000) (hlen : T.cut.length ≤ 1000) :
    Calls Try.prog 38 #[stV T pv cv] w (FreshP w T.ready) := by
  obtain ⟨A, c, rfl, _⟩ := PSl.shape h.1
  obtain ⟨A2, c2, rfl, _⟩ := CSl.shape h.2
  have H := hid h
  clear h
  unfold stV
  go_enter Try.func38, Try.ntmps38
  go_wp2_with fail
  go_loopw [3, 4] (fun v i wr => ∃ k : Nat, k ≤ T.l.length ∧ i = .int .i64 k ∧ wr.heap[w.heap.size]? = some (stO T (.slice A T.l.length c) (.slice A2 T.cut.length c2)) ∧ Hid (Coll w v ((T.l.take k).filter fun p => !T.isCut p.src p.dst) wr)) (fun _ i _ => T.l.length - (intOf i).toNat)
  case atStart => exact ⟨0, by omega, rfl, new_at rfl, hid ⟨own_nil _, by go_grown, by simp [Value.ownBlock]⟩⟩
  case round =>
    obtain ⟨k, hk, rfl, hbx, hco⟩ := hrel
    obtain ⟨q0, q1, q2, q3, q4, q5⟩ := st_cell hbx
    have HBX := hid hbx
    have HS := hid (H.out.below hco.out.2.1)
    clear hbx q5
    by_cases hlt : k < T.l.length
    · obtain ⟨b, off, c', hA, hbl, _, h0, h1, h2, h3⟩ := PSl.at_ HS.out.1 hlt
      injection hA with hA _ hA'
      subst hA; subst hA'
      cases hp : T.isCut T.l[k].src T.l[k].dst with
      | true =>
        have HP := hid hp
        clear hp
        go_wp2_with fail
        go_region_held3 (fun w' => w'.cell? ⟨w.heap.size, 0, none⟩ = some (.int .i64 T.n) ∧ w'.cell? ⟨w.heap.size, 1, none⟩ = some (.int .i64 T.next) ∧ w'.cell? ⟨w.heap.size, 2, none⟩ = some (.slice (some ⟨b, off, none⟩) T.l.length c) ∧ w'.cell? ⟨w.heap.size, 3, none⟩ = some (.slice A2 T.cut.length c2) ∧ w'.cell? ⟨b, off + k * 4 + 1, none⟩ = some (.int .i64 T.l[k].src) ∧ w'.cell? ⟨b, off + k * 4 + 2, none⟩ = some (.int .i64 T.l[k].dst)) (go_keep) ((first | (go_at_call 36; refine (iscut_any av T _ _ _ _ _ _ (by exact HS.out) hlen HP.out).mono ?_; rintro e w1 ⟨rfl, hb⟩; have hbc : ∀ b o, b < wr.heap.size → w1.cell? ⟨b, o, none⟩ = wr.cell? ⟨b, o, none⟩ := bcell (undrew hb); have HB := hid (undrew hb); clear hb)))
        go_wp2_with fail
        go_roundw
        case rel => exact ⟨k + 1, by omega, by go_num, (HB.out.block _ q4).trans HBX.out, hid (by
          rw [List.take_succ_eq_append_getElem hlt, List.filter_append, List.filter_cons_of_neg (by simp [HP.out]), List.filter_nil, List.append_nil]
          exact ⟨own_keep hco.out.1 (Keep.of_below HB.out (fun _ => False)) (fun _ _ h => h), hco.out.2.1.trans (HB.out.mono hco.out.2.1.size), hco.out.2.2⟩)⟩
        case measure => simp [intOf]; omega
      | false =>
        have HP := hid hp
        clear hp
        go_wp2_with fail
        go_region_held3 (fun w' => w'.cell? ⟨w.heap.size, 0, none⟩ = some (.int .i64 T.n) ∧ w'.cell? ⟨w.heap.size, 1, none⟩ = some (.int .i64 T.next) ∧ w'.cell? ⟨w.heap.size, 2, none⟩ = some (.slice (some ⟨b, off, none⟩) T.l.length c) ∧ w'.cell? ⟨w.heap.size, 3, none⟩ = some (.slice A2 T.cut.length c2) ∧ w'.cell? ⟨b, off + k * 4 + 1, none⟩ = some (.int .i64 T.l[k].src) ∧ w'.cell? ⟨b, off + k * 4 + 2, none⟩ = some (.int .i64 T.l[k].dst)) (go_keep) ((first | (go_at_call 36; refine (iscut_any av T _ _ _ _ _ _ (by exact HS.out) hlen HP.out).mono ?_; rintro e w1 ⟨rfl, hb⟩; have hbc : ∀ b o, b < wr.heap.size → w1.cell? ⟨b, o, none⟩ = wr.cell? ⟨b, o, none⟩ := bcell (undrew hb); have HB := hid (undrew hb); clear hb)))
        go_wp2_with (at_builtin; (refine wpList_appendP (av := fun _ => False) rfl (.tmp 27) (.tmp 33) rfl _ _ ((T.l.take k).filter fun p => !T.isCut p.src p.dst) [T.l[k]] rfl rfl (own_keep hco.out.1 ((Keep.of_below HB.out (fun _ => False)).alloc _) (fun _ _ h => h)) (sl_one (new_at rfl)) (by have := List.length_filter_le (fun p : Pkt => !T.isCut p.src p.dst) (T.l.take k); rw [List.length_take] at this; simp only [List.length_cons, List.length_nil]; omega) ?_))
        intro v' w3 ho hkp hat
        have HC2 := hid (coll_step hco.out HB.out q4 ho hkp hat rfl)
        clear ho hkp hat
        go_wp2_with fail
        go_roundw
        case rel => exact ⟨k + 1, by omega, by go_num, HC2.out.2.trans HBX.out, hid (by
          have := HC2.out.1
          rw [List.take_succ_eq_append_getElem hlt, List.filter_append, List.filter_cons_of_pos (by simp [HP.out]), List.filter_nil]
          exact this)⟩
        case measure => simp [intOf]; omega
    · obtain rfl : k = T.l.length := by omega
      go_wp2_with fail
      go_ret
      have hc := hco.out
      rw [List.take_length] at hc
      exact ⟨_, rfl, hc.1, hc.2.1, fun b hb => Nat.le_of_lt (hc.2.2 b hb)⟩
end Go.Proofs.Ytinpinjjdkilpaa
