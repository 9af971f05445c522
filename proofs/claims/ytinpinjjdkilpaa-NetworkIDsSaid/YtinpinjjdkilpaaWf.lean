/- the network's methods: Pending, Ready, add, Send -/
import Derived.Test.YtinpinjjdkilpaaWe
import Derived.Deep.RegionLaw
namespace Go.Proofs.Ytinpinjjdkilpaa
open Go.RowKit
def Net.isCut (S : Net) (a b : Int) : Bool := (getA S.cut (min a b, max a b)).getD false
def Net.ready (S : Net) : List Pkt := S.l.filter fun p => !S.isCut p.src p.dst
theorem getA_map {κ α β : Type} [DecidableEq κ] (f : α → β) (l : List (κ × α)) (k : κ) : getA (l.map fun p => (p.1, f p.2)) k = (getA l k).map f := by
  induction l with
  | nil => rfl
  | cons p l ih =>
    simp only [List.map_cons, getA]
    by_cases h : k = p.1
    · simp [h]
    · simp [h, ih]
theorem cutV (S : Net) (a b : Int) : (getA (S.cut.map fun p => (p.1, Value.bool p.2)) (min a b, max a b)).getD (.bool false) = .bool (S.isCut a b) := by
  rw [getA_map]
  unfold Net.isCut
  cases getA S.cut (min a b, max a b) <;> rfl
set_option maxHeartbeats 400000 in
theorem pending_any (x m : Nat) (pk : Value) (S : Net) (w : World) (hN : NetAt w x m pk S) (hlen : S.l.length ≤ 100) :
    Calls Try.prog 14 #[.pointer (some ⟨x, 0, none⟩)] w (FreshP w S.l) := by
  have h2 := hN.c2
  have HC := hid (clone_any (fun _ => False) pk S.l w (hN.sl (fun _ _ h => h)) (by omega))
  clear hN
  go_enter Try.func14, Try.ntmps14
  go_wp2_with fail
  refine HC.out.mono ?_
  rintro e w' ⟨v, rfl, h⟩
  have H := hid h
  clear h
  go_wp2_with fail
  go_ret
  exact ⟨v, rfl, H.out⟩
set_option maxHeartbeats 400000 in
theorem ready_any (x m : Nat) (pk : Value) (S : Net) (w : World) (hN : NetAt w x m pk S) (hlen : S.l.length ≤ 100) :
    Calls Try.prog 15 #[.pointer (some ⟨x, 0, none⟩)] w (FreshP w S.ready) := by
  have hN1 := hN.below (w' := w.alloc (.cells #[.pointer (some ⟨x, 0, none⟩)] 23)) ((Below.refl _ _).alloc (Nat.le_refl _) _)
  have HC := hid (pending_any x m pk S _ hN1 hlen)
  have HN := hid hN
  clear hN hN1
  go_enter Try.func15, Try.ntmps15
  go_wp2_with fail
  refine HC.out.mono ?_
  rintro e w1 ⟨v, rfl, ho, hb, hf⟩
  have HO := hid ho
  have HB := hid hb
  have HF := hid hf
  clear ho hb hf
  go_wp2_with fail
  refine (deletefunc_any _ _ cf30 (fun p => S.isCut p.src p.dst) _ v S.l HO.out (by omega) ?_).mono ?_
  · intro w' hk p
    have hc : w1.cell? ⟨w.heap.size, 0, none⟩ = some (.pointer (some ⟨x, 0, none⟩)) := by rw [HB.out.cell (p := ⟨w.heap.size, 0, none⟩) (by simp)]; simp
    have hkw : Keep (fun b => w.heap.size < b) w w' := (((Keep.refl _ w).alloc _).trans_below HB.out).trans hk (fun i _ h => by have := HF.out i h; simp at this; omega)
    have hN' := HN.out.keep hkw (fun b hb => by have := HN.out.lt hb; omega)
    rw [← cutV S p.src p.dst]
    refine ready1_any _ x m p.id p.src p.dst p.data _ w' ?_ hN'.c3 hN'.2.2
    rw [hk.cell (a := ⟨w.heap.size, 0, none⟩) (by have := HB.out.size; simp at this; show w.heap.size < _; omega) (fun h => by have := HF.out _ h; simp at this; omega)]
    exact hc
  · rintro e w2 ⟨v', rfl, ho', hob, hk'⟩
    have HO' := hid ho'
    have HOB := hid hob
    have HK' := hid hk'
    clear ho' hob hk'
    go_wp2_with fail
    go_ret
    refine ⟨v', rfl, HO'.out, ?_, fun b hb => ?_⟩
    · exact Keep.below_of (F := fun b => w.heap.size < b) ((((Keep.refl _ w).alloc _).trans_below HB.out).trans HK'.out (fun i _ h => by have := HF.out i h; simp at this; omega)) (Nat.le_refl _) (fun i h => by omega)
    · rw [HOB.out] at hb
      have := HF.out b hb
      simp at this; omega
/-- how a method that may turn the network ends -/
def Meth (x m : Nat) (pk : Value) (w : World) (S : Net) (v : Value) (e : Ending) (w' : World) : Prop :=
  e = .returned v ∧ ∃ pk', NetAt w' x m pk' S ∧ Keep (NetF x m pk) w w' ∧ ∀ b, pk'.ownBlock = some b → pk.ownBlock = some b ∨ w.heap.size ≤ b
/-- a packet sent -/
def Net.sent (S : Net) (a b : Int) (d : ByteArray) : Net := { S with last := S.last + 1, l := S.l ++ [⟨S.last + 1, a, b, d⟩] }
set_option maxHeartbeats 400000 in
theorem add_full (x m : Nat) (pk : Value) (S : Net) (a b : Int) (d : ByteArray) (w : World) (hN : NetAt w x m pk S) (hlen : 64 ≤ S.l.length) :
    Calls Try.prog 40 #[.pointer (some ⟨x, 0, none⟩), .int .i64 a, .int .i64 b, .string d] w fun e w' => e = .returned (.tuple #[.int .i64 0, .int .i64 3]) ∧ w' = w := by
  have h2 := hN.c2
  obtain ⟨A, c, rfl, _⟩ := PSl.shape (hN.sl (av := fun _ => False) (fun _ _ h => h))
  have hl : ¬ ((S.l.length : Int) < 64) := by omega
  clear hN
  go_enter Try.func40, Try.ntmps40
  go_wp2_with fail
  go_ret2
  exact ⟨rfl, rfl⟩
theorem own_setCell {w : World} {v : Value} {l : List Pkt} (h : POwn w v l) {a : Addr} (ha : v.ownBlock ≠ some a.block) (u : Value) : POwn (w.setCell a u) v l :=
  own_keep (F := fun b => b = a.block) h ((Keep.refl (fun b => b = a.block) w).setCell (fun _ => rfl) u) (fun _ hb e => ha (e ▸ hb))
theorem add_done {x m : Nat} {pk v' : Value} {S : Net} {a b : Int} {d : ByteArray} {w w2 : World} {o : Obj} (hN : NetAt w x m pk S)
    (hK : Keep (fun b => pk.ownBlock = some b) ((w.setCell ⟨x, 1, none⟩ (.int .i64 (S.last + 1))).alloc o).drew w2) (hO : POwn w2 v' (S.l ++ [⟨S.last + 1, a, b, d⟩])) (hat : v'.ownBlock = pk.ownBlock ∨ v'.ownBlock = some ((w.setCell ⟨x, 1, none⟩ (.int .i64 (S.last + 1))).alloc o).drew.heap.size) :
    ∃ pk', NetAt (w2.setCell ⟨x, 2, none⟩ v') x m pk' (S.sent a b d) ∧ Keep (NetF x m pk) w (w2.setCell ⟨x, 2, none⟩ v') ∧ ∀ b, pk'.ownBlock = some b → pk.ownBlock = some b ∨ w.heap.size ≤ b := by
  have hx := hN.lt (.inl rfl)
  have k1 : Keep (fun b => b = x) w ((w.setCell ⟨x, 1, none⟩ (.int .i64 (S.last + 1))).alloc o).drew := (((Keep.refl (fun b => b = x) w).setCell (fun _ => rfl) _).alloc _).drew
  have k2 : Keep (fun b => b = x ∨ pk.ownBlock = some b) w w2 := (k1.mono (fun _ _ h => .inl h)).trans hK (fun _ _ h => .inr h)
  have h1 : w2.heap[x]? = some (.cells #[.int .i64 S.n, .int .i64 (S.last + 1), pk, .map (some m)] 70 (0, 0)) := by
    rw [hK.block x (by simp [World.drew]; omega) hN.ne_p]
    exact (Below.heap_alloc _ o x (by simpa using hx)).trans (heap_setCell_at hN.1 _)
  have hne : v'.ownBlock ≠ some x := by
    rcases hat with h | h <;> rw [h]
    · exact hN.ne_p
    · intro e
      injection e with e
      simp [World.drew] at e
      omega
  refine ⟨v', ⟨heap_setCell_at h1 v', own_setCell hO hne v', hN.2.2.keep (k2.trans ((Keep.refl (fun b => b = x) w2).setCell (fun _ => rfl) v') (fun _ _ h => .inl h)) (fun h => ?_)⟩, ?_, fun b hb => ?_⟩
  · rcases h with h | h
    · exact hN.ne_m h.symm
    · exact hN.ne_pm h
  · exact ((k2.setCell (fun _ => .inl rfl) v').mono fun i _ h => by
      rcases h with h | h
      · exact .inl h
      · exact .inr (.inr h))
  · rcases hat with h | h <;> rw [h] at hb
    · exact .inl hb
    · injection hb with hb
      simp [World.drew] at hb
      exact .inr (by omega)
set_option maxHeartbeats 400000 in
theorem add_any (x m : Nat) (pk : Value) (S : Net) (a b : Int) (d : ByteArray) (w : World) (hN : NetAt w x m pk S) (hlen : S.l.length < 64) (h0 : 0 ≤ S.last) (h1 : S.last ≤ 1000000) :
    Calls Try.prog 40 #[.pointer (some ⟨x, 0, none⟩), .int .i64 a, .int .i64 b, .string d] w (Meth x m pk w (S.sent a b d) (.tuple #[.int .i64 (S.last + 1), .int .i64 0])) := by
  have hx := hN.lt (.inl rfl)
  have c1 := hN.c1
  have c2 := hN.c2
  have f1 := hN.fz 1
  have f2 := hN.fz 2
  obtain ⟨A, c, rfl, _⟩ := PSl.shape (hN.sl (av := fun _ => False) (fun _ _ h => h))
  have HN := hid hN
  clear hN
  go_enter Try.func40, Try.ntmps40
  go_wp2_with fail
  have HNE := hid (fun b => fun (hb : (Value.slice A S.l.length c).ownBlock = some b) => show ¬ b = x from fun h => HN.out.ne_p (h ▸ hb))
  go_region_law (first | (refine step_appendP (av := fun _ => False) rfl _ _ rfl (.slice A S.l.length c) _ S.l [⟨S.last + 1, a, b, d⟩] rfl rfl (own_keep (F := fun b => b = x) HN.out.2.1 (by repeat (first | exact Keep.refl _ _ | refine Keep.drew ?_ | refine Keep.alloc ?_ _ | refine Keep.setCell ?_ (by intro _; rfl) _)) HNE.out) (sl_one (new_at (by simp))) (by simp; omega) ?_; intro v' w2 ho hk hat; obtain ⟨A', c', rfl, _⟩ := PSl.shape (Sl.of_own (av := fun _ => False) ho (fun _ _ h => h)); simp only [List.length_append, List.length_cons, List.length_nil, Nat.zero_add] at ho hat; have g1 : w2.cell? ⟨x, 1, none⟩ = some (.int .i64 (S.last + 1)) := hk.at_ (by go_simp) (fun h => HNE.out _ h rfl); have g2 : w2.cell? ⟨x, 2, none⟩ = some (.slice A S.l.length c) := hk.at_ (by go_simp) (fun h => HNE.out _ h rfl); have g3 : w2.frozen? ⟨x, 2, none⟩ = false := hk.fz (by go_simp) (by simp; omega) (fun h => HNE.out _ h rfl); have HO := hid ho; have HK := hid hk; have HAT := hid hat; clear ho hk hat))
  all_goals
    go_wp2
    go_ret2
    exact ⟨rfl, add_done HN.out HK.out HO.out HAT.out⟩
end Go.Proofs.Ytinpinjjdkilpaa
