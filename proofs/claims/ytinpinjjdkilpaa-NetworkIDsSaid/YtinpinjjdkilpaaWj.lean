/- Deliver -/
import Derived.Test.YtinpinjjdkilpaaWi
import Derived.Laws.ResultCell
namespace Go.Proofs.Ytinpinjjdkilpaa
open Go.RowKit
/-- the cells of a packet that lies alone in a block -/
theorem row4 {w : World} {B : Nat} {p : Pkt} {t : TypeId} (h : w.heap[B]? = some (.cells #[.int .i64 p.id, .int .i64 p.src, .int .i64 p.dst, .string p.data] t (0, 0))) :
    w.cell? ⟨B, 0, none⟩ = some (.int .i64 p.id) ∧ w.cell? ⟨B, 1, none⟩ = some (.int .i64 p.src) ∧ w.cell? ⟨B, 2, none⟩ = some (.int .i64 p.dst) ∧ w.cell? ⟨B, 3, none⟩ = some (.string p.data) ∧ B < w.heap.size ∧ ∀ i, w.frozen? ⟨B, i, none⟩ = false :=
  ⟨cell_of_row w B 0 _ _ _ h, cell_of_row w B 1 _ _ _ h, cell_of_row w B 2 _ _ _ h, cell_of_row w B 3 _ _ _ h, lt_of_heap h, fun i => by simp [World.frozen?, h]⟩
theorem res_P {fn : Func} {p u : Tmp} (h : fn.results = #[.cell p 42, .tmp u]) (tmps : Array Value) (w : World) (B : Nat) (q : Pkt) (t : TypeId) (hp : tmps.getD p undef = .pointer (some ⟨B, 0, none⟩))
    (hB : w.heap[B]? = some (.cells #[.int .i64 q.id, .int .i64 q.src, .int .i64 q.dst, .string q.data] t (0, 0))) : (results fn tmps).run Try.prog w = .ok (.tuple #[q.val, tmps.getD u undef]) w := by
  rw [results_cell_tmp h, hp]
  simp [asAddr, loadP hB]
theorem heap_old2 {w : World} {k : Nat} {o o' : Obj} (h : k < w.heap.size) : ((w.alloc o).alloc o').drew.heap[k]? = w.heap[k]? := by
  show ((w.alloc o).alloc o').heap[k]? = _
  rw [Below.heap_alloc _ _ _ (by simp; omega), Below.heap_alloc _ _ _ h]
set_option maxHeartbeats 1000000 in
theorem deliver_any (x m : Nat) (pk : Value) (S : Net) (id : Int) (w : World) (hN : NetAt w x m pk S) (hlen : S.l.length ≤ 100) :
    Calls Try.prog 24 #[.pointer (some ⟨x, 0, none⟩), .int .i64 id] w (Meth x m pk w (S.deliver id).1 (.tuple #[(S.deliver id).2.1.val, .int .i64 (S.deliver id).2.2])) := by
  unfold Net.deliver
  have hB0 : Below w.heap.size w (w.alloc (.cells #[.int .i64 0, .int .i64 0, .int .i64 0, .string ByteArray.empty] 42)) := (Below.refl _ _).alloc (Nat.le_refl _) _
  have HB0 := hid hB0
  have HN0 := hid (hN.below hB0)
  have HN := hid hN
  clear hB0 hN
  cases hi : S.at_ id with
  | none =>
    have HF := hid (find_none x m pk S id _ HN0.out hlen hi)
    clear hi
    go_enter Try.func24, Try.ntmps24
    go_wp2_with fail
    refine HF.out.mono ?_
    rintro e w1 ⟨rfl, hb⟩
    have HB := hid hb
    have hr1 : w1.heap[w.heap.size]? = some (.cells #[.int .i64 zeroP.id, .int .i64 zeroP.src, .int .i64 zeroP.dst, .string zeroP.data] 42 (0, 0)) := (hb.block _ (by simp)).trans (new_at rfl)
    have HR := hid hr1
    clear hr1 hb
    go_wp2_with (refine wpList_store_whole rfl 42 (.tmp 4) (.tmp 17) rfl w.heap.size _ _ _ rfl rfl HR.out sizP rfl (one4 _ _ _ _) ?_)
    refine bodyPost_ret (res_P rfl _ _ w.heap.size zeroP _ rfl (setRow_heap w1 w.heap.size _ _ _ _ HR.out)) rfl ?_
    exact meth_same HN.out (Keep.below_of (F := fun b => w.heap.size ≤ b) (((Keep.of_below HB0.out _).trans (Keep.of_below HB.out (fun b => w.heap.size ≤ b)) (fun _ _ h => h)).setRow (fun h => absurd h (by omega)) _) (Nat.le_refl _) (fun _ h => h)) rfl
  | some i =>
    have hil := at_lt hi
    have HF := hid (find_some x m pk S id i _ HN0.out hlen hi)
    obtain ⟨g, cap, rfl, hc⟩ := own_shape HN.out.2.1 (by omega)
    have hgd := getD_at hil
    simp only [hgd]
    clear hgd
    generalize hp : S.l[i] = p at *
    have HP := hid hp
    clear hi hp
    cases hcut : S.isCut p.src p.dst with
    | true =>
      have HCUT := hid hcut
      clear hcut
      simp only [if_true]
      go_enter Try.func24, Try.ntmps24
      go_wp2_with fail
      refine HF.out.mono ?_
      rintro e w1 ⟨rfl, hb⟩
      have HB := hid hb
      have HN1 := hid (HN0.out.below hb)
      have HR := hid ((hb.block w.heap.size (by simp)).trans (new_at rfl))
      have c2 := HN1.out.c2
      have c3 := HN1.out.c3
      have hxl := HN1.out.lt (.inl rfl)
      obtain ⟨hgl, e0, e1, e2, e3⟩ := own_at HN1.out.2.1 hil p HP.out
      have HLT := hid (show w.heap.size < w1.heap.size by have := hb.size; simp at this; omega)
      clear hb
      have hlk : ∀ w', Below w1.heap.size w1 w' → (Instr.lookup 68 (.map (some m)) (.agg #[.int .i64 (min p.src p.dst), .int .i64 (max p.src p.dst)]) false).run Try.prog w' = .ok (.bool true) w' := fun w' hb => by
        have h1 := cut_look (HN1.out.below hb).2.2 (min p.src p.dst) (max p.src p.dst)
        rw [cutV, HCUT.out] at h1
        exact h1
      go_wp2_with fail
      go_region_held3 (fun w' => w'.cell? ⟨x, 3, none⟩ = some (.map (some m)) ∧ w'.cell? ⟨w1.heap.size, 1, none⟩ = some (.int .i64 p.src) ∧ w'.cell? ⟨w1.heap.size, 2, none⟩ = some (.int .i64 p.dst)) (go_keep) ((first | (go_at_call 31; refine (link_any _ _ _).mono ?_; rintro e w' ⟨rfl, rfl⟩) | ((with_reducible refine upon_run (hlk _ ?hb) ?_); (case hb => go_grown); simp only [Act.put, List.setIfInBounds_toArray, List.set_cons_zero, List.set_cons_succ])))
      clear hlk e0 e1 e2 e3 c3
      go_wp2_with (refine wpList_store_whole rfl 42 (.tmp 4) (.tmp 36) rfl w.heap.size _ _ _ rfl rfl ((heap_old2 HLT.out).trans HR.out) sizP rfl (one4 _ _ _ _) ?_)
      refine bodyPost_ret (res_P rfl _ _ w.heap.size zeroP _ rfl (setRow_heap _ w.heap.size _ _ _ _ ((heap_old2 HLT.out).trans HR.out))) rfl ?_
      exact meth_same HN.out (Keep.below_of (F := fun b => w.heap.size ≤ b) (((((Keep.of_below HB0.out _).trans (Keep.of_below HB.out (fun b => w.heap.size ≤ b)) (fun _ _ h => h)).alloc _).alloc _).drew.setRow (fun h => absurd h (by omega)) _) (Nat.le_refl _) (fun _ h => h)) rfl
    | false =>
      have HCUT := hid hcut
      clear hcut
      simp only [Bool.false_eq_true, if_false]
      go_enter Try.func24, Try.ntmps24
      go_wp2_with fail
      refine HF.out.mono ?_
      rintro e w1 ⟨rfl, hb⟩
      have HB := hid hb
      have HN1 := hid (HN0.out.below hb)
      have HR := hid ((hb.block w.heap.size (by simp)).trans (new_at rfl))
      have c2 := HN1.out.c2
      have c3 := HN1.out.c3
      have hxl := HN1.out.lt (.inl rfl)
      obtain ⟨hgl, e0, e1, e2, e3⟩ := own_at HN1.out.2.1 hil p HP.out
      have HLT := hid (show w.heap.size < w1.heap.size by have := hb.size; simp at this; omega)
      clear hb
      have hlk : ∀ w', Below w1.heap.size w1 w' → (Instr.lookup 68 (.map (some m)) (.agg #[.int .i64 (min p.src p.dst), .int .i64 (max p.src p.dst)]) false).run Try.prog w' = .ok (.bool false) w' := fun w' hb => by
        have h1 := cut_look (HN1.out.below hb).2.2 (min p.src p.dst) (max p.src p.dst)
        rw [cutV, HCUT.out] at h1
        exact h1
      go_wp2_with fail
      go_region_held3 (fun w' => w'.cell? ⟨x, 3, none⟩ = some (.map (some m)) ∧ w'.cell? ⟨w1.heap.size, 1, none⟩ = some (.int .i64 p.src) ∧ w'.cell? ⟨w1.heap.size, 2, none⟩ = some (.int .i64 p.dst)) (go_keep) ((first | (go_at_call 31; refine (link_any _ _ _).mono ?_; rintro e w' ⟨rfl, rfl⟩) | ((with_reducible refine upon_run (hlk _ ?hb) ?_); (case hb => go_grown); simp only [Act.put, List.setIfInBounds_toArray, List.set_cons_zero, List.set_cons_succ])))
      clear hlk e0 e1 e2 e3 c3
      have HB3 := hid (((Below.refl _ w1).alloc (Nat.le_refl _) (.cells #[.int .i64 p.id, .int .i64 p.src, .int .i64 p.dst, .string p.data] 42)).alloc (by simp) (.cells #[.int .i64 (min p.src p.dst), .int .i64 (max p.src p.dst)] 73))
      have HN3 := hid (HN1.out.below HB3.out.drew)
      go_wp2_with fail
      refine (delete_any g cap S.l S.l.length i _ rfl hil (by omega) HN3.out.2.1).mono ?_
      rintro e w4 ⟨cap', rfl, ho, hk⟩
      have hk' : Keep (fun b => (Value.slice (some ⟨g, 0, none⟩) S.l.length cap).ownBlock = some b) _ w4 := hk.mono (fun _ _ h => by subst h; rfl)
      obtain ⟨g2, g3, hx2⟩ := net_facts HN3.out hk'
      have hgx : ¬ (w1.heap.size : Nat) = x := by omega
      have hgw : ¬ (w.heap.size : Nat) = x := by have := HN.out.lt (.inl rfl); omega
      have hbx : w4.heap[w1.heap.size]? = some (.cells #[.int .i64 p.id, .int .i64 p.src, .int .i64 p.dst, .string p.data] 42 (0, 0)) :=
        (hk.block _ (by simp [World.drew]; omega) (fun h => by omega)).trans ((Below.heap_alloc _ _ _ (by simp)).trans (new_at rfl))
      obtain ⟨q0, q1, q2, q3, q4, q5⟩ := row4 hbx
      have HR4 := hid ((hk.block w.heap.size (by have := HLT.out; simp [World.drew]; omega) (fun h => by have := own_lt HN.out.2.1 (b := g) rfl; omega)).trans ((heap_old2 HLT.out).trans HR.out))
      have HGW := hid hgw
      have HO := hid ho
      have HK := hid hk'
      clear ho hk hk' c2 hbx hgw
      go_wp2_with (refine wpList_store_whole rfl 42 (.tmp 4) (.tmp 48) rfl w.heap.size _ _ _ rfl rfl ((Below.heap_setCell _ _ _ _ HGW.out).trans HR4.out) sizP rfl (one4 _ _ _ _) ?_)
      refine bodyPost_ret (res_P rfl _ _ w.heap.size p _ rfl (setRow_heap _ w.heap.size _ _ _ _ ((Below.heap_setCell _ _ _ _ HGW.out).trans HR4.out))) rfl ?_
      obtain ⟨pk', n1, n2, n3⟩ := repl_done HN3.out HK.out HO.out rfl
      have hsz : w.heap.size < (((w1.alloc (.cells #[.int .i64 p.id, .int .i64 p.src, .int .i64 p.dst, .string p.data] 42)).alloc (.cells #[.int .i64 (min p.src p.dst), .int .i64 (max p.src p.dst)] 73)).drew).heap.size := by have := HLT.out; simp [World.drew]; omega
      refine ⟨rfl, pk', n1.keep (F := fun b => b = w.heap.size) ((Keep.refl (fun b => b = w.heap.size) _).setRow (fun _ => rfl) _) (fun b hb e => ?_), ?_, fun b hb => ?_⟩
      · subst e
        rcases hb with h | h | h
        · have := HN.out.lt (.inl rfl); omega
        · have := HN.out.lt (.inr (.inl rfl)); omega
        · rcases n3 _ h with h | h
          · have := own_lt HN.out.2.1 h; omega
          · omega
      · refine Keep.setRow ?_ (fun h => absurd h (by omega)) _
        exact (((Keep.of_below HB0.out _).trans (Keep.of_below HB.out _) (fun _ _ h => h)).trans (Keep.of_below HB3.out.drew _) (fun _ _ h => h)).trans n2 (fun _ _ h => h)
      · rcases n3 b hb with h | h
        · exact .inl h
        · exact .inr (by omega)
end Go.Proofs.Ytinpinjjdkilpaa
