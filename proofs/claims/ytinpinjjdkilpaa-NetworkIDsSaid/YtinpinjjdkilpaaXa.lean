/- methods over a network whose blocks lie in a set -/
import Derived.Test.YtinpinjjdkilpaaSv
namespace Go.Proofs.Ytinpinjjdkilpaa
open Go.RowKit
/-- a network whose blocks lie in G -/
def NetO (G : Nat → Prop) (x : Nat) (S : Net) (w : World) : Prop := ∃ m pk, NetAt w x m pk S ∧ ∀ b, NetF x m pk b → G b
/-- new memory lies in G -/
def Fresh (G : Nat → Prop) (w : World) : Prop := ∀ b, w.heap.size ≤ b → G b
section
variable {G G' F : Nat → Prop} {x : Nat} {S S' : Net} {w w' : World}
theorem NetO.keep (h : NetO G x S w) (hk : Keep F w w') (hF : ∀ b, b < w.heap.size → F b → ¬ G b) : NetO G x S w' := by
  obtain ⟨m, pk, h, hG⟩ := h
  exact ⟨m, pk, h.keep hk fun b hb hf => hF b (h.lt hb) hf (hG b hb), hG⟩
theorem NetO.below (h : NetO G x S w) (hk : Below w.heap.size w w') : NetO G x S w' := h.keep (Keep.of_below hk (fun _ => False)) (fun _ _ h => h.elim)
theorem NetO.into (h : NetO G x S w) (hG : ∀ b, b < w.heap.size → G b → G' b) : NetO G' x S w := by
  obtain ⟨m, pk, h, hg⟩ := h
  exact ⟨m, pk, h, fun b hb => hG b (h.lt hb) (hg b hb)⟩
theorem NetO.x_lt (h : NetO G x S w) : x < w.heap.size := by
  obtain ⟨m, pk, h, hg⟩ := h
  exact h.lt (.inl rfl)
theorem NetO.x_in (h : NetO G x S w) : G x := by
  obtain ⟨m, pk, h, hg⟩ := h
  exact hg x (.inl rfl)
theorem Fresh.of (h : Fresh G w) (hs : w.heap.size ≤ w'.heap.size) : Fresh G w' := fun b hb => h b (by omega)
end
/-- how a method over such a network ends -/
def MO (G : Nat → Prop) (x : Nat) (w : World) (S' : Net) (v : Value) (e : Ending) (w' : World) : Prop := e = .returned v ∧ NetO G x S' w' ∧ Keep G w w'
theorem Meth.own {G : Nat → Prop} {x m : Nat} {pk v : Value} {w w' : World} {S' : Net} {e : Ending} (h : Meth x m pk w S' v e w') (hG : ∀ b, NetF x m pk b → G b) (hf : Fresh G w) : MO G x w S' v e w' := by
  obtain ⟨he, pk', hN, hk, hp⟩ := h
  refine ⟨he, ⟨m, pk', hN, fun b hb => ?_⟩, hk.mono fun b _ hb => hG b hb⟩
  rcases hb with rfl | rfl | hb
  · exact hG _ (.inl rfl)
  · exact hG _ (.inr (.inl rfl))
  · rcases hp b hb with h | h
    · exact hG _ (.inr (.inr h))
    · exact hf _ h
section
variable {G : Nat → Prop} {x : Nat} {S S' : Net} {w : World}
theorem new_o (n : Int) (hf : Fresh G w) (h1 : 1 ≤ n) (h2 : n ≤ 20) : Calls Try.prog 12 #[.int .i64 n] w fun e w' =>
    ∃ x, e = .returned (.tuple #[.pointer (some ⟨x, 0, none⟩), .int .i64 0]) ∧ NetO G x (newNet n) w' ∧ Below w.heap.size w w' ∧ w.heap.size ≤ x := by
  refine (new_any n w h1 h2).mono ?_
  rintro e w' ⟨rfl, h, hb⟩
  refine ⟨_, rfl, ⟨_, _, h, fun b hb => ?_⟩, hb, by omega⟩
  rcases hb with rfl | rfl | hb
  · exact hf _ (by omega)
  · exact hf _ (by omega)
  · cases hb
theorem send_o (a b : Int) (d : ByteArray) (hN : NetO G x S w) (hf : Fresh G w) (h0 : 0 ≤ S.last) (h1 : S.last ≤ 1000000) (i e : Int) (hr : S.send a b d = (S', i, e)) :
    Calls Try.prog 23 #[.pointer (some ⟨x, 0, none⟩), .int .i64 a, .int .i64 b, .string d] w (MO G x w S' (.tuple #[.int .i64 i, .int .i64 e])) := by
  obtain ⟨m, pk, h, hG⟩ := hN
  have := send_any x m pk S a b d w h h0 h1
  rw [hr] at this
  exact this.mono fun _ _ h => h.own hG hf
theorem deliver_o (id : Int) (hN : NetO G x S w) (hf : Fresh G w) (hlen : S.l.length ≤ 100) (p : Pkt) (e : Int) (hr : S.deliver id = (S', p, e)) :
    Calls Try.prog 24 #[.pointer (some ⟨x, 0, none⟩), .int .i64 id] w (MO G x w S' (.tuple #[p.val, .int .i64 e])) := by
  obtain ⟨m, pk, h, hG⟩ := hN
  have := deliver_any x m pk S id w h hlen
  rw [hr] at this
  exact this.mono fun _ _ h => h.own hG hf
theorem drop_o (id : Int) (hN : NetO G x S w) (hf : Fresh G w) (hlen : S.l.length ≤ 100) (e : Int) (hr : S.drop id = (S', e)) :
    Calls Try.prog 26 #[.pointer (some ⟨x, 0, none⟩), .int .i64 id] w (MO G x w S' (.int .i64 e)) := by
  obtain ⟨m, pk, h, hG⟩ := hN
  have := drop_any x m pk S id w h hlen
  rw [hr] at this
  exact this.mono fun _ _ h => h.own hG hf
theorem copy_o (id : Int) (hN : NetO G x S w) (hf : Fresh G w) (hlen : S.l.length ≤ 100) (h0 : 0 ≤ S.last) (h1 : S.last ≤ 1000000) (i e : Int) (hr : S.copy id = (S', i, e)) :
    Calls Try.prog 25 #[.pointer (some ⟨x, 0, none⟩), .int .i64 id] w (MO G x w S' (.tuple #[.int .i64 i, .int .i64 e])) := by
  obtain ⟨m, pk, h, hG⟩ := hN
  have := copy_any x m pk S id w h hlen h0 h1
  rw [hr] at this
  exact this.mono fun _ _ h => h.own hG hf
theorem cut_o (a b : Int) (c : Bool) (hN : NetO G x S w) (hf : Fresh G w) (e : Int) (hr : S.setCut a b c = (S', e)) :
    Calls Try.prog 21 #[.pointer (some ⟨x, 0, none⟩), .int .i64 a, .int .i64 b, .bool c] w (MO G x w S' (.int .i64 e)) := by
  obtain ⟨m, pk, h, hG⟩ := hN
  have := cut_any x m pk S a b c w h
  rw [hr] at this
  exact this.mono fun _ _ h => h.own hG hf
theorem clear_o (nd : Int) (hN : NetO G x S w) (hf : Fresh G w) (hlen : S.l.length ≤ 100) (n e : Int) (hr : S.clear nd = (S', n, e)) :
    Calls Try.prog 27 #[.pointer (some ⟨x, 0, none⟩), .int .i64 nd] w (MO G x w S' (.tuple #[.int .i64 n, .int .i64 e])) := by
  obtain ⟨m, pk, h, hG⟩ := hN
  have := clear_any x m pk S nd w h hlen
  rw [hr] at this
  exact this.mono fun _ _ h => h.own hG hf
theorem pending_o (hN : NetO G x S w) (hlen : S.l.length ≤ 100) : Calls Try.prog 14 #[.pointer (some ⟨x, 0, none⟩)] w (FreshP w S.l) := by
  obtain ⟨m, pk, h, hG⟩ := hN
  exact pending_any x m pk S w h hlen
theorem ready_o (hN : NetO G x S w) (hlen : S.l.length ≤ 100) : Calls Try.prog 15 #[.pointer (some ⟨x, 0, none⟩)] w (FreshP w S.ready) := by
  obtain ⟨m, pk, h, hG⟩ := hN
  exact ready_any x m pk S w h hlen
end
end Go.Proofs.Ytinpinjjdkilpaa
