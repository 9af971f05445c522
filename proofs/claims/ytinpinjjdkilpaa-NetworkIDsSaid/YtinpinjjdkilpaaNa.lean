/- The network as an object of the machine: its methods' contracts. -/
import Derived.Test.YtinpinjjdkilpaaEw
import Derived.Test.YtinpinjjdkilpaaRc
namespace Go.Proofs.Ytinpinjjdkilpaa
open Go Go.RowKit
def Pkt.cv (p : Pkt) : List AV := [.int .i64 p.id, .int .i64 p.src, .int .i64 p.dst, .str p.data]
def cutA (c : (Int × Int) × Bool) : AV := .agg [.int .i64 c.1.1, .int .i64 c.1.2, .bool c.2]
def pksA (l : List Pkt) : AV := .sl false (l.map Pkt.cv)
def encN (S : Net) : AV := .tup [.int .i64 S.n, .int .i64 S.last, pksA S.l, .tup (S.cut.map cutA)]
def decP : List AV → Option Pkt
  | [.int _ a, .int _ b, .int _ c, .str d] => some ⟨a, b, c, d⟩
  | _ => none
def decC : AV → Option ((Int × Int) × Bool)
  | .agg [.int _ a, .int _ b, .bool c] => some ((a, b), c)
  | _ => none
def decN : AV → Option Net
  | .tup [.int _ n, .int _ last, .sl _ l, .tup c] => some ⟨n, last, l.filterMap decP, c.filterMap decC⟩
  | _ => none
theorem decN_enc (S : Net) : decN (encN S) = some S := by
  obtain ⟨n, last, l, c⟩ := S
  have h1 : (l.map Pkt.cv).filterMap decP = l := by
    rw [List.filterMap_map]
    exact List.filterMap_some
  have h2 : (c.map cutA).filterMap decC = c := by
    rw [List.filterMap_map]
    exact List.filterMap_some
  simp only [encN, pksA, decN, h1, h2]
def netObjs : Objs where
  at_ A H p w := ∃ S m pk, A = encN S ∧ NetAt w p m pk S ∧ ∀ b, H b ↔ NetF p m pk b
  keep := fun {A H p w w'} h hb hs => by
    obtain ⟨S, m, pk, hA, h, hH⟩ := h
    have hk : Keep (fun b => ¬ H b) w { w' with os := w.os, tape := w.tape, output := w.output } := ⟨rfl, rfl, rfl, hs, fun k _ hn => hb k (Classical.not_not.1 hn)⟩
    have := h.keep hk fun b hf hn => hn ((hH b).2 hf)
    exact ⟨S, m, pk, hA, this, hH⟩
  main := fun {A H p w} h => by
    obtain ⟨S, m, pk, hA, h, hH⟩ := h
    exact (hH p).2 (.inl rfl)
  lt := fun {A H p w b} h hb => by
    obtain ⟨S, m, pk, hA, h, hH⟩ := h
    exact h.lt ((hH b).1 hb)
def resA (r : Res) : AV := .agg [.int .i64 r.id, .int .i64 r.p.id, .int .i64 r.p.src, .int .i64 r.p.dst, .str r.p.data, .int .i64 r.n, .int .i64 r.e]
def opA (o : Op) : AV := .agg [.int .u8 o.kind, .int .i64 o.a, .int .i64 o.b, .int .i64 o.id, .str o.data, .bool o.cut]
def netExt : CallT := fun f args S0 =>
  if f = 11 then match args, S0 with
    | [], none => some (.bool true, none)
    | _, _ => none
  else if f = 17 then match args, S0 with
    | [.int .u8 k], none => if 0 ≤ k ∧ k ≤ 255 then some (.tup [.ptr 0 0 0, .agg [.int .i64 (newSt (1 + k % 5)).n, .int .i64 (newSt (1 + k % 5)).next, .sl true [], .sl true []], .bool true], some (encN (newNet (1 + k % 5)))) else none
    | _, _ => none
  else if f = 19 then match args, S0.bind decN with
    | [.ptr 0 0 0, .agg [.int .u8 k, .int .i64 a, .int .i64 b, .int .i64 id, .str d, .bool c]], some S =>
      if S.l.length ≤ 100 ∧ 0 ≤ S.last ∧ S.last ≤ 1000000 ∧ 0 ≤ k ∧ k ≤ 255 then some (resA (S.exec ⟨k, a, b, id, d, c⟩).2, some (encN (S.exec ⟨k, a, b, id, d, c⟩).1)) else none
    | _, _ => none
  else if f = 14 then match args, S0.bind decN with
    | [.ptr 0 0 0], some S => if S.l.length ≤ 100 then some (pksA S.l, some (encN S)) else none
    | _, _ => none
  else if f = 15 then match args, S0.bind decN with
    | [.ptr 0 0 0], some S => if S.l.length ≤ 100 then some (pksA S.ready, some (encN S)) else none
    | _, _ => none
  else if f = 21 then match args, S0.bind decN with
    | [.ptr 0 0 0, .int .i64 a, .int .i64 b, .bool c], some S => some (.int .i64 (S.setCut a b c).2, some (encN (S.setCut a b c).1))
    | _, _ => none
  else none
section
variable {av : Av} {w w' : World}
theorem cv_rep (p : Pkt) : RepL av w p.cv p.cells := by
  exact ⟨_, _, rfl, rfl, rfl, _, _, rfl, rfl, rfl, _, _, rfl, rfl, rfl, _, _, rfl, rfl, rfl, rfl⟩
theorem pc_rep : ∀ (l : List Pkt), RepL av w (l.map Pkt.cv).flatten (pc l)
  | [] => by simp [RepL, pc]
  | p :: l => by
    rw [pc_cons, List.map_cons, List.flatten_cons]
    exact RepL_append (cv_rep p) (pc_rep l)
theorem pks_rep {v : Value} {l : List Pkt} (h : POwn w v l) (hav : ∀ b o, v.ownBlock = some b → ¬ av b o) : Rep av w (pksA l) v := by
  have hl := h.1
  have huni : ∀ x ∈ l.map Pkt.cv, ∀ y ∈ l.map Pkt.cv, x.length = y.length := fun x hx y hy => by
    obtain ⟨p, _, rfl⟩ := List.mem_map.1 hx
    obtain ⟨q, _, rfl⟩ := List.mem_map.1 hy
    rfl
  simp only [pksA, Rep, List.length_map]
  rcases h.2 with ⟨rfl, h0⟩ | ⟨g, cap, cur, rfl, hb, hg, hnc, _⟩
  · refine ⟨none, 0, by rw [h0], by omega, huni, (fun h => by cases h), fun _ => ⟨fun _ => rfl, fun h => by omega⟩⟩
  · refine ⟨_, cap, rfl, hnc, huni, (fun h => by cases h), fun _ => ⟨fun h => (by cases h), fun _ => ⟨g, 0, rfl, ?_⟩⟩⟩
    refine Rows_flat.2 (Cells_mk (pc_rep l) fun j u hu => ⟨?_, hav g _ rfl⟩)
    have := h.cells (g := g) rfl j u hu
    rw [Addr.add_lit] at this
    exact this
theorem res_rep (r : Res) : Rep av w (resA r) (resV r) := by
  exact ⟨_, rfl, _, _, rfl, rfl, rfl, _, _, rfl, rfl, rfl, _, _, rfl, rfl, rfl, _, _, rfl, rfl, rfl, _, _, rfl, rfl, rfl, _, _, rfl, rfl, rfl, _, _, rfl, rfl, rfl, rfl⟩
/-- how a method over the object ends -/
theorem obj_post {H : Nat → Prop} {p : Nat} {S' : Net} {v : Value} {e : Ending} (h : MO (fun b => H b ∨ w.heap.size ≤ b) p w S' v e w') :
    e = .returned v ∧ ∃ H', netObjs.at_ (encN S') H' p w' ∧ (∀ b, H' b → H b ∨ w.heap.size ≤ b) ∧ Keep H w w' := by
  obtain ⟨he, ⟨m, pk, hN, hG⟩, hk⟩ := h
  exact ⟨he, NetF p m pk, ⟨S', m, pk, rfl, hN, fun b => Iff.rfl⟩, hG, hk.mono fun i hi h => h.resolve_right (by omega)⟩
theorem obj_pre {H : Nat → Prop} {p : Nat} {A : AV} {S : Net} (h : netObjs.at_ A H p w) (hd : decN A = some S) : A = encN S ∧ NetO (fun b => H b ∨ w.heap.size ≤ b) p S w ∧ Fresh (fun b => H b ∨ w.heap.size ≤ b) w := by
  obtain ⟨S1, m, pk, rfl, hN, hH⟩ := h
  rw [decN_enc] at hd
  injection hd with hd
  subst hd
  exact ⟨rfl, ⟨m, pk, hN, fun b hb => .inl ((hH b).2 hb)⟩, fun b hb => .inr hb⟩
end
end Go.Proofs.Ytinpinjjdkilpaa
