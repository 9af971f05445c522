/- Drop, Copy, Clear, New, Cut, Deliver -/
import Derived.Test.YtinpinjjdkilpaaWg
namespace Go.Proofs.Ytinpinjjdkilpaa
open Go.RowKit
theorem at_lt {S : Net} {id : Int} {i : Nat} (h : S.at_ id = some i) : i < S.l.length := (List.findIdx?_eq_some_iff_getElem.1 h).1
theorem getD_at {S : Net} {i : Nat} (h : i < S.l.length) : S.l.getD i zeroP = S.l[i] := by simp [h]
/-- a slice with something in it lies in a block -/
theorem own_shape {w : World} {v : Value} {l : List Pkt} (h : POwn w v l) (hl : 0 < l.length) : ∃ g cap, v = .slice (some ⟨g, 0, none⟩) l.length cap ∧ l.length ≤ cap := by
  rcases h.2 with ⟨rfl, h0⟩ | ⟨g, cap, cur, rfl, _, _, hnc, _⟩
  · omega
  · exact ⟨g, cap, rfl, hnc⟩
/-- the packets' slice replaced -/
theorem repl_done {x m : Nat} {pk v' : Value} {S : Net} {w w2 : World} {l' : List Pkt} (hN : NetAt w x m pk S) (hK : Keep (fun b => pk.ownBlock = some b) w w2) (hO : POwn w2 v' l') (hat : v'.ownBlock = pk.ownBlock) :
    ∃ pk', NetAt (w2.setCell ⟨x, 2, none⟩ v') x m pk' { S with l := l' } ∧ Keep (NetF x m pk) w (w2.setCell ⟨x, 2, none⟩ v') ∧ ∀ b, pk'.ownBlock = some b → pk.ownBlock = some b ∨ w.heap.size ≤ b := by
  have hx := hN.lt (.inl rfl)
  have h1 : w2.heap[x]? = some (.cells #[.int .i64 S.n, .int .i64 S.last, pk, .map (some m)] 70 (0, 0)) := (hK.block x hx hN.ne_p).trans hN.1
  have hne : v'.ownBlock ≠ some x := by rw [hat]; exact hN.ne_p
  refine ⟨v', ⟨heap_setCell_at h1 v', own_setCell hO hne v', (hN.2.2.keep hK hN.ne_pm).keep (F := fun b => b = x) ((Keep.refl (fun b => b = x) w2).setCell (fun _ => rfl) v') (fun h => hN.ne_m h.symm)⟩, ?_, fun b hb => ?_⟩
  · exact (hK.mono (fun _ _ h => .inr (.inr h))).setCell (fun _ => .inl rfl) v'
  · rw [hat] at hb; exact .inl hb
theorem net_facts {x m : Nat} {pk : Value} {S : Net} {w w2 : World} (hN : NetAt w x m pk S) (hK : Keep (fun b => pk.ownBlock = some b) w w2) : w2.cell? ⟨x, 2, none⟩ = some pk ∧ w2.frozen? ⟨x, 2, none⟩ = false ∧ x < w2.heap.size :=
  ⟨hK.at_ hN.c2 hN.ne_p, hK.fz (hN.fz 2) (hN.lt (.inl rfl)) hN.ne_p, Nat.lt_of_lt_of_le (hN.lt (.inl rfl)) hK.size⟩
/-- a method on a network that has been handed on -/
theorem Meth.from_ {x m : Nat} {pk v : Value} {S' : Net} {w w1 w' : World} {e : Ending} (hb : Below w.heap.size w w1) (h : Meth x m pk w1 S' v e w') : Meth x m pk w S' v e w' := by
  obtain ⟨he, pk', h1, h2, h3⟩ := h
  exact ⟨he, pk', h1, (Keep.of_below hb _).trans h2 (fun _ _ h => h), fun b hb' => (h3 b hb').imp id fun h => Nat.le_trans hb.size h⟩
set_option maxHeartbeats 400000 in
theorem drop_any (x m : Nat) (pk : Value) (S : Net) (id : Int) (w : World) (hN : NetAt w x m pk S) (hlen : S.l.length ≤ 100) :
    Calls Try.prog 26 #[.pointer (some ⟨x, 0, none⟩), .int .i64 id] w (Meth x m pk w (S.drop id).1 (.int .i64 (S.drop id).2)) := by
  unfold Net.drop
  cases hi : S.at_ id with
  | none =>
    have HF := hid (find_none x m pk S id w hN hlen hi)
    have HN := hid hN
    clear hN hi
    go_enter Try.func26, Try.ntmps26
    go_wp2_with fail
    refine HF.out.mono ?_
    rintro e w1 ⟨rfl, hb⟩
    have HB := hid hb
    clear hb
    go_wp2_with fail
    go_ret
    exact meth_same HN.out HB.out rfl
  | some i =>
    have hil := at_lt hi
    have HF := hid (find_some x m pk S id i w hN hlen hi)
    obtain ⟨g, cap, rfl, hc⟩ := own_shape hN.2.1 (by omega)
    have HN := hid hN
    clear hN hi
    go_enter Try.func26, Try.ntmps26
    go_wp2_with fail
    refine HF.out.mono ?_
    rintro e w1 ⟨rfl, hb⟩
    have HN1 := hid (HN.out.below hb)
    have HB := hid hb
    have c2 := HN1.out.c2
    clear hb
    go_wp2_with fail
    refine (delete_any g cap S.l S.l.length i w1 rfl hil (by omega) HN1.out.2.1).mono ?_
    rintro e w2 ⟨cap', rfl, ho, hk⟩
    have hk' : Keep (fun b => (Value.slice (some ⟨g, 0, none⟩) S.l.length cap).ownBlock = some b) w1 w2 := hk.mono (fun _ _ h => by subst h; rfl)
    obtain ⟨g2, g3, hx2⟩ := net_facts HN1.out hk'
    have HO := hid ho
    have HK := hid hk'
    clear ho hk hk' c2
    go_wp2_with fail
    go_ret
    exact Meth.from_ HB.out ⟨rfl, repl_done HN1.out HK.out HO.out rfl⟩
set_option maxHeartbeats 400000 in
theorem copy_any (x m : Nat) (pk : Value) (S : Net) (id : Int) (w : World) (hN : NetAt w x m pk S) (hlen : S.l.length ≤ 100) (h0 : 0 ≤ S.last) (h1 : S.last ≤ 1000000) :
    Calls Try.prog 25 #[.pointer (some ⟨x, 0, none⟩), .int .i64 id] w (Meth x m pk w (S.copy id).1 (.tuple #[.int .i64 (S.copy id).2.1, .int .i64 (S.copy id).2.2])) := by
  unfold Net.copy
  cases hi : S.at_ id with
  | none =>
    have HF := hid (find_none x m pk S id w hN hlen hi)
    have HN := hid hN
    clear hN hi
    go_enter Try.func25, Try.ntmps25
    go_wp2_with fail
    refine HF.out.mono ?_
    rintro e w1 ⟨rfl, hb⟩
    have HB := hid hb
    clear hb
    go_wp2_with fail
    go_ret2
    exact meth_same HN.out HB.out rfl
  | some i =>
    have hil := at_lt hi
    have HF := hid (find_some x m pk S id i w hN hlen hi)
    obtain ⟨g, cap, rfl, hc⟩ := own_shape hN.2.1 (by omega)
    have HN := hid hN
    clear hN hi
    have hgd := getD_at hil
    simp only [hgd]
    have HGD := hid hgd
    clear hgd
    generalize hp : S.l[i] = p at *
    have HP := hid hp
    clear hp
    generalize hr : S.put p.src p.dst p.data = r at *
    have HR := hid hr
    clear hr
    go_enter Try.func25, Try.ntmps25
    go_wp2_with fail
    refine HF.out.mono ?_
    rintro e w1 ⟨rfl, hb⟩
    have HN1 := hid (HN.out.below hb)
    have HB := hid hb
    have c2 := HN1.out.c2
    have hxl := HN1.out.lt (.inl rfl)
    obtain ⟨hgl, e0, e1, e2, e3⟩ := own_at HN1.out.2.1 hil p HP.out
    clear hb
    go_wp2_with fail
    have HN2 := hid (HN1.out.below (w' := w1.alloc (.cells #[.int .i64 p.id, .int .i64 p.src, .int .i64 p.dst, .string p.data] 42)) ((Below.refl _ _).alloc (Nat.le_refl _) _))
    refine (put_any x m _ S p.src p.dst p.data _ HN2.out h0 h1).mono ?_
    rintro e w2 ⟨rfl, h⟩
    rw [HR.out] at h
    rw [HR.out]
    have H := hid h
    clear h
    go_wp2_with fail
    go_ret2
    exact Meth.from_ (HB.out.trans (((Below.refl _ w1).alloc (Nat.le_refl _) _).mono HB.out.size)) ⟨rfl, H.out⟩
set_option maxHeartbeats 400000 in
theorem clear_any (x m : Nat) (pk : Value) (S : Net) (nd : Int) (w : World) (hN : NetAt w x m pk S) (hlen : S.l.length ≤ 100) :
    Calls Try.prog 27 #[.pointer (some ⟨x, 0, none⟩), .int .i64 nd] w (Meth x m pk w (S.clear nd).1 (.tuple #[.int .i64 (S.clear nd).2.1, .int .i64 (S.clear nd).2.2])) := by
  unfold Net.clear
  have hN1 := hN.below (w' := w.alloc (.cells #[.int .i64 nd] 3)) ((Below.refl _ _).alloc (Nat.le_refl _) _)
  have hB1 := hid ((Below.refl w.heap.size w).alloc (Nat.le_refl _) (.cells #[.int .i64 nd] 3))
  have HN := hid hN
  have HN1 := hid hN1
  clear hN hN1
  cases hnd : S.node nd with
  | false =>
    have HV := hid (node_val x m pk S nd false _ HN1.out hnd)
    clear hnd
    simp only [Bool.false_eq_true, if_false]
    go_enter Try.func27, Try.ntmps27
    go_wp2_with fail
    refine HV.out.mono ?_
    rintro e w1 ⟨rfl, rfl⟩
    go_wp2_with fail
    go_ret2
    exact meth_same HN.out hB1.out rfl
  | true =>
    have HV := hid (node_val x m pk S nd true _ HN1.out hnd)
    clear hnd
    simp only [if_true]
    have c2 := HN.out.c2
    have f2 := HN.out.fz 2
    have hxl := HN.out.lt (.inl rfl)
    obtain ⟨A, c, rfl, _⟩ := PSl.shape (HN.out.sl (av := fun _ => False) (fun _ _ h => h))
    go_enter Try.func27, Try.ntmps27
    go_wp2_with fail
    refine HV.out.mono ?_
    rintro e w1 ⟨rfl, rfl⟩
    go_wp2_with fail
    refine (deletefunc_any _ _ cf43 (fun p => p.dst == nd) _ _ S.l HN1.out.2.1 (by omega) ?_).mono ?_
    · intro w' hk p
      refine clear1_any _ nd p.id p.src p.dst p.data w' ?_
      refine hk.at_ (by simp) (fun h => ?_)
      have := own_lt HN.out.2.1 h
      simp at this
    · rintro e w2 ⟨v', rfl, ho, hob, hk⟩
      obtain ⟨A', c', rfl, _⟩ := PSl.shape (Sl.of_own (av := fun _ => False) ho (fun _ _ h => h))
      obtain ⟨g2, g3, hx2⟩ := net_facts HN1.out hk
      have HO := hid ho
      have HOB := hid hob
      have HK := hid hk
      clear ho hob hk c2 f2
      have hfl := List.length_filter_le (fun p : Pkt => !(p.dst == nd)) S.l
      go_wp2_with fail
      go_ret2
      exact Meth.from_ hB1.out ⟨rfl, repl_done HN1.out HK.out HO.out HOB.out⟩
end Go.Proofs.Ytinpinjjdkilpaa
