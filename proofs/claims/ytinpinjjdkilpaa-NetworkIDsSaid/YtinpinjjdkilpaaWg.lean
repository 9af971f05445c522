/- the network's methods: Send, Drop, Deliver, Copy, Cut, Clear, New; what each does to the plain network -/
import Derived.Test.YtinpinjjdkilpaaWf
namespace Go.Proofs.Ytinpinjjdkilpaa
open Go.RowKit
def Net.node (S : Net) (i : Int) : Bool := decide (0 ≤ i) && decide (i < S.n)
def Net.put (S : Net) (a b : Int) (d : ByteArray) : Net × Int × Int := if S.l.length < 64 then (S.sent a b d, S.last + 1, 0) else (S, 0, 3)
def Net.send (S : Net) (a b : Int) (d : ByteArray) : Net × Int × Int := if S.node a && S.node b then S.put a b d else (S, 0, 7)
def Net.without (S : Net) (i : Nat) : Net := { S with l := S.l.eraseIdx i }
def zeroP : Pkt := ⟨0, 0, 0, ByteArray.empty⟩
def Net.deliver (S : Net) (id : Int) : Net × Pkt × Int :=
  match S.at_ id with
  | none => (S, zeroP, 4)
  | some i => let p := S.l.getD i zeroP; if S.isCut p.src p.dst then (S, zeroP, 11) else (S.without i, p, 0)
def Net.drop (S : Net) (id : Int) : Net × Int := match S.at_ id with | none => (S, 4) | some i => (S.without i, 0)
def Net.copy (S : Net) (id : Int) : Net × Int × Int := match S.at_ id with | none => (S, 0, 4) | some i => let p := S.l.getD i zeroP; S.put p.src p.dst p.data
def Net.setCut (S : Net) (a b : Int) (c : Bool) : Net × Int := if S.node a && (S.node b && !decide (a = b)) then ({ S with cut := setA S.cut (min a b, max a b) c }, 0) else (S, 7)
def Net.clear (S : Net) (nd : Int) : Net × Int × Int :=
  if S.node nd then ({ S with l := S.l.filter fun p => !(p.dst == nd) }, (S.l.length : Int) - ((S.l.filter fun p => !(p.dst == nd)).length : Int), 0) else (S, 0, 7)

theorem meth_same {x m : Nat} {pk v : Value} {S : Net} {w w' : World} {e : Ending} (hN : NetAt w x m pk S) (hb : Below w.heap.size w w') (he : e = .returned v) : Meth x m pk w S v e w' :=
  ⟨he, pk, hN.below hb, Keep.of_below hb _, fun _ h => .inl h⟩
theorem node_val (x m : Nat) (pk : Value) (S : Net) (i : Int) (v : Bool) (w : World) (hN : NetAt w x m pk S) (h : S.node i = v) :
    Calls Try.prog 39 #[.pointer (some ⟨x, 0, none⟩), .int .i64 i] w fun e w' => e = .returned (.bool v) ∧ w' = w := by
  rw [← h]
  exact node_any x S.n i w hN.c0
set_option maxHeartbeats 400000 in
theorem put_any (x m : Nat) (pk : Value) (S : Net) (a b : Int) (d : ByteArray) (w : World) (hN : NetAt w x m pk S) (h0 : 0 ≤ S.last) (h1 : S.last ≤ 1000000) :
    Calls Try.prog 40 #[.pointer (some ⟨x, 0, none⟩), .int .i64 a, .int .i64 b, .string d] w (Meth x m pk w (S.put a b d).1 (.tuple #[.int .i64 (S.put a b d).2.1, .int .i64 (S.put a b d).2.2])) := by
  unfold Net.put
  by_cases h : S.l.length < 64
  · rw [if_pos h]
    exact add_any x m pk S a b d w hN h h0 h1
  · rw [if_neg h]
    refine (add_full x m pk S a b d w hN (by omega)).mono ?_
    rintro e w' ⟨rfl, rfl⟩
    exact meth_same hN (Below.refl _ _) rfl
set_option maxHeartbeats 400000 in
theorem send_any (x m : Nat) (pk : Value) (S : Net) (a b : Int) (d : ByteArray) (w : World) (hN : NetAt w x m pk S) (h0 : 0 ≤ S.last) (h1 : S.last ≤ 1000000) :
    Calls Try.prog 23 #[.pointer (some ⟨x, 0, none⟩), .int .i64 a, .int .i64 b, .string d] w (Meth x m pk w (S.send a b d).1 (.tuple #[.int .i64 (S.send a b d).2.1, .int .i64 (S.send a b d).2.2])) := by
  have HN := hid hN
  have HP := hid (put_any x m pk S a b d w hN h0 h1)
  clear hN
  unfold Net.send
  cases ha : S.node a with
  | false =>
    have HA := hid (node_val x m pk S a false w HN.out ha)
    clear ha
    simp only [Bool.false_and, Bool.false_eq_true, if_false]
    go_enter Try.func23, Try.ntmps23
    go_wp2_with fail
    refine HA.out.mono ?_
    rintro e w' ⟨rfl, rfl⟩
    go_wp2_with fail
    go_ret2
    exact meth_same HN.out (Below.refl _ _) rfl
  | true =>
    have HA := hid (node_val x m pk S a true w HN.out ha)
    clear ha
    cases hb : S.node b with
    | false =>
      have HB := hid (node_val x m pk S b false w HN.out hb)
      clear hb
      simp only [Bool.and_false, Bool.false_eq_true, if_false]
      go_enter Try.func23, Try.ntmps23
      go_wp2_with fail
      refine HA.out.mono ?_
      rintro e w' ⟨rfl, rfl⟩
      go_wp2_with fail
      refine HB.out.mono ?_
      rintro e w' ⟨rfl, rfl⟩
      go_wp2_with fail
      go_ret2
      exact meth_same HN.out (Below.refl _ _) rfl
    | true =>
      have HB := hid (node_val x m pk S b true w HN.out hb)
      clear hb
      simp only [Bool.and_self, if_true]
      generalize hr : S.put a b d = r at *
      clear hr
      go_enter Try.func23, Try.ntmps23
      go_wp2_with fail
      refine HA.out.mono ?_
      rintro e w' ⟨rfl, rfl⟩
      go_wp2_with fail
      refine HB.out.mono ?_
      rintro e w' ⟨rfl, rfl⟩
      go_wp2_with fail
      refine HP.out.mono ?_
      rintro e w1 ⟨rfl, h⟩
      have H := hid h
      clear h
      go_wp2_with fail
      go_ret2
      exact ⟨rfl, H.out⟩
end Go.Proofs.Ytinpinjjdkilpaa
