/- What plain values stand for in memory. -/
import Derived.Test.YtinpinjjdkilpaaEb
import Derived.Test.YtinpinjjdkilpaaLib
namespace Go.Proofs.Ytinpinjjdkilpaa
open Go Go.RowKit
abbrev Av := Nat → Nat → Prop
/-- where the call's own memory lies; and which blocks its objects hold -/
structure Ix where
  f : Nat → Nat → Option Nat
  ob : Nat → Nat → Option (Nat → Prop)
instance : CoeFun Ix (fun _ => Nat → Nat → Option Nat) := ⟨Ix.f⟩
def Ix.none : Ix := ⟨fun _ _ => .none, fun _ _ => .none⟩
/-- objects: what lies at block p is in state S; it holds the blocks H -/
structure Objs where
  at_ : AV → (Nat → Prop) → Nat → World → Prop
  keep : ∀ {S H p w w'}, at_ S H p w → (∀ b, H b → w'.heap[b]? = w.heap[b]?) → w.heap.size ≤ w'.heap.size → at_ S H p w'
  main : ∀ {S H p w}, at_ S H p w → H p
  lt : ∀ {S H p w b}, at_ S H p w → H b → b < w.heap.size
mutual
/-- v reads as x in w, and nothing that it reads lies in av -/
def Rep (av : Av) (w : World) : AV → Value → Prop
  | .int k n, v => v = .int k n
  | .bool b, v => v = .bool b
  | .str s, v => v = .string s
  | .nilP, v => v = .pointer none
  | .ip cs, v => ∃ b off, v = .pointer (some ⟨b, off, none⟩) ∧ Cells av w cs b off
  | .sl nil l, v => ∃ A c, v = .slice A l.length c ∧ l.length ≤ c ∧ (∀ x ∈ l, ∀ y ∈ l, x.length = y.length) ∧ (nil = true → A = none ∧ l.length = 0 ∧ c = 0) ∧ (nil = false → (A = none → c = 0) ∧ (0 < l.length → ∃ b off, A = some ⟨b, off, none⟩ ∧ Rows av w l b off))
  | .agg cs, v => ∃ us, v = .agg us ∧ RepL av w cs us.toList
  | .tup xs, v => ∃ us, v = .tuple us ∧ RepT av w xs us.toList
  | .ptr .., _ => False
  | .bp .., _ => False
  | .bl .., _ => False
  | .ref .., _ => False
  | .undef, _ => False
def RepL (av : Av) (w : World) : List AV → List Value → Prop
  | [], us => us = []
  | x :: r, us => ∃ u us', us = u :: us' ∧ Rep av w x u ∧ u.oneCell' = true ∧ RepL av w r us'
def RepT (av : Av) (w : World) : List AV → List Value → Prop
  | [], us => us = []
  | x :: r, us => ∃ u us', us = u :: us' ∧ Rep av w x u ∧ RepT av w r us'
def Cells (av : Av) (w : World) : List AV → Nat → Nat → Prop
  | [], _, _ => True
  | x :: r, b, off => (∃ u, w.cell? ⟨b, off, none⟩ = some u ∧ Rep av w x u ∧ u.oneCell' = true) ∧ ¬ av b off ∧ Cells av w r b (off + 1)
def Rows (av : Av) (w : World) : List (List AV) → Nat → Nat → Prop
  | [], _, _ => True
  | cs :: r, b, off => Cells av w cs b off ∧ Rows av w r b (off + cs.length)
end
/-- what is kept from a world to a later one -/
structure Held (av av' : Av) (w w' : World) : Prop where
  cell : ∀ b o u, w.cell? ⟨b, o, none⟩ = some u → ¬ av b o → w'.cell? ⟨b, o, none⟩ = some u ∧ ¬ av' b o
mutual
theorem Rep.held {av av' : Av} {w w' : World} (h : Held av av' w w') : ∀ (x : AV) (v : Value), Rep av w x v → Rep av' w' x v
  | .int _ _, _, hr => by simpa [Rep] using hr
  | .bool _, _, hr => by simpa [Rep] using hr
  | .str _, _, hr => by simpa [Rep] using hr
  | .nilP, _, hr => by simpa [Rep] using hr
  | .ip cs, _, hr => by
    simp only [Rep] at hr ⊢
    obtain ⟨b, off, rfl, hc⟩ := hr
    exact ⟨b, off, rfl, Cells.held h cs b off hc⟩
  | .sl nil l, _, hr => by
    simp only [Rep] at hr ⊢
    obtain ⟨A, c, rfl, hc, hu, hn, hs⟩ := hr
    refine ⟨A, c, rfl, hc, hu, hn, fun hf => ⟨(hs hf).1, fun h0 => ?_⟩⟩
    obtain ⟨b, off, rfl, hrow⟩ := (hs hf).2 h0
    exact ⟨b, off, rfl, Rows.held h l b off hrow⟩
  | .agg cs, _, hr => by
    simp only [Rep] at hr ⊢
    obtain ⟨us, rfl, hc⟩ := hr
    exact ⟨us, rfl, RepL.held h cs _ hc⟩
  | .tup xs, _, hr => by
    simp only [Rep] at hr ⊢
    obtain ⟨us, rfl, hc⟩ := hr
    exact ⟨us, rfl, RepT.held h xs _ hc⟩
  | .ptr .., _, hr => by simp [Rep] at hr
  | .bp .., _, hr => by simp [Rep] at hr
  | .bl .., _, hr => by simp [Rep] at hr
  | .ref .., _, hr => by simp [Rep] at hr
  | .undef, _, hr => by simp [Rep] at hr
theorem RepL.held {av av' : Av} {w w' : World} (h : Held av av' w w') : ∀ (xs : List AV) (us : List Value), RepL av w xs us → RepL av' w' xs us
  | [], _, hr => by simpa [RepL] using hr
  | x :: r, _, hr => by
    simp only [RepL] at hr ⊢
    obtain ⟨u, us', rfl, hx, h1, hr⟩ := hr
    exact ⟨u, us', rfl, Rep.held h x u hx, h1, RepL.held h r us' hr⟩
theorem RepT.held {av av' : Av} {w w' : World} (h : Held av av' w w') : ∀ (xs : List AV) (us : List Value), RepT av w xs us → RepT av' w' xs us
  | [], _, hr => by simpa [RepT] using hr
  | x :: r, _, hr => by
    simp only [RepT] at hr ⊢
    obtain ⟨u, us', rfl, hx, hr⟩ := hr
    exact ⟨u, us', rfl, Rep.held h x u hx, RepT.held h r us' hr⟩
theorem Cells.held {av av' : Av} {w w' : World} (h : Held av av' w w') : ∀ (cs : List AV) (b off : Nat), Cells av w cs b off → Cells av' w' cs b off
  | [], _, _, _ => by simp [Cells]
  | x :: r, b, off, hr => by
    simp only [Cells] at hr ⊢
    obtain ⟨⟨u, hc, hx, h1⟩, ha, hr⟩ := hr
    obtain ⟨hc', ha'⟩ := h.cell b off u hc ha
    exact ⟨⟨u, hc', Rep.held h x u hx, h1⟩, ha', Cells.held h r b (off + 1) hr⟩
theorem Rows.held {av av' : Av} {w w' : World} (h : Held av av' w w') : ∀ (l : List (List AV)) (b off : Nat), Rows av w l b off → Rows av' w' l b off
  | [], _, _, _ => by simp [Rows]
  | cs :: r, b, off, hr => by
    simp only [Rows] at hr ⊢
    exact ⟨Cells.held h cs b off hr.1, Rows.held h r b (off + cs.length) hr.2⟩
end
theorem Held.refl (av : Av) (w : World) : Held av av w w := ⟨fun _ _ _ hc ha => ⟨hc, ha⟩⟩
theorem Held.less {av av' : Av} {w : World} (h : ∀ b o, av' b o → av b o) : Held av av' w w := ⟨fun _ _ _ hc ha => ⟨hc, fun hx => ha (h _ _ hx)⟩⟩
/-- cells that are lent: they may lie in av, what they hold may not -/
def CellsB (av avB : Av) (w : World) : List AV → Nat → Nat → Prop
  | [], _, _ => True
  | x :: r, b, off => (∃ u, w.cell? ⟨b, off, none⟩ = some u ∧ Rep av w x u ∧ u.oneCell' = true) ∧ ¬ avB b off ∧ CellsB av avB w r b (off + 1)
def RowsB (av avB : Av) (w : World) : List (List AV) → Nat → Nat → Prop
  | [], _, _ => True
  | cs :: r, b, off => CellsB av avB w cs b off ∧ RowsB av avB w r b (off + cs.length)
theorem CellsB.held {av av' avB avB' : Av} {w w' : World} (h : Held av av' w w') (hB : Held avB avB' w w') : ∀ (cs : List AV) (b off : Nat), CellsB av avB w cs b off → CellsB av' avB' w' cs b off
  | [], _, _, _ => by simp [CellsB]
  | x :: r, b, off, hr => by
    simp only [CellsB] at hr ⊢
    obtain ⟨⟨u, hc, hx, h1⟩, ha, hr⟩ := hr
    obtain ⟨hc', ha'⟩ := hB.cell b off u hc ha
    exact ⟨⟨u, hc', Rep.held h x u hx, h1⟩, ha', CellsB.held h hB r b (off + 1) hr⟩
theorem RowsB.held {av av' avB avB' : Av} {w w' : World} (h : Held av av' w w') (hB : Held avB avB' w w') : ∀ (l : List (List AV)) (b off : Nat), RowsB av avB w l b off → RowsB av' avB' w' l b off
  | [], _, _, _ => by simp [RowsB]
  | cs :: r, b, off, hr => by
    simp only [RowsB] at hr ⊢
    exact ⟨CellsB.held h hB cs b off hr.1, RowsB.held h hB r b (off + cs.length) hr.2⟩
/-- what one cell of the call's own, or one slot, holds -/
def RepC (ι : Ix) (av : Av) (w : World) : AV → Value → Prop
  | .ptr t n off, v => ∃ b, ι t n = some b ∧ v = .pointer (some ⟨b, off, none⟩)
  | .ref t n _ off len cap, v => ∃ b, ι t n = some b ∧ len ≤ cap ∧ v = .slice (some ⟨b, off, none⟩) len cap
  | x, v => Rep av w x v
def RepCL (ι : Ix) (av : Av) (w : World) : List AV → List Value → Prop
  | [], us => us = []
  | x :: r, us => ∃ u us', us = u :: us' ∧ RepC ι av w x u ∧ u.oneCell' = true ∧ RepCL ι av w r us'
def RepCT (ι : Ix) (av : Av) (w : World) : List AV → List Value → Prop
  | [], us => us = []
  | x :: r, us => ∃ u us', us = u :: us' ∧ RepC ι av w x u ∧ RepCT ι av w r us'
def RepS (ι : Ix) (av avB : Av) (w : World) : AV → Value → Prop
  | .bp cs, v => ∃ b off, v = .pointer (some ⟨b, off, none⟩) ∧ CellsB av avB w cs b off
  | .bl l, v => ∃ a c, v = .slice (some a) l.length c ∧ l.length ≤ c ∧ (∀ x ∈ l, ∀ y ∈ l, x.length = y.length) ∧ (0 < l.length → ∃ b off, a = ⟨b, off, none⟩ ∧ RowsB av avB w l b off)
  | .agg cs, v => ∃ us, v = .agg us ∧ RepCL ι av w cs us.toList
  | .tup xs, v => ∃ us, v = .tuple us ∧ RepCT ι av w xs us.toList
  | .undef, _ => True
  | x, v => RepC ι av w x v
theorem RepC.held {ι ι' : Ix} {av av' : Av} {w w' : World} (hι : ∀ t n b, ι t n = some b → ι' t n = some b) (h : Held av av' w w') (x : AV) (v : Value) (hr : RepC ι av w x v) : RepC ι' av' w' x v := by
  cases x <;> first
    | exact Rep.held h _ v hr
    | (obtain ⟨b, hb, hv⟩ := hr; exact ⟨b, hι _ _ _ hb, hv⟩)
theorem RepCL.held {ι ι' : Ix} {av av' : Av} {w w' : World} (hι : ∀ t n b, ι t n = some b → ι' t n = some b) (h : Held av av' w w') : ∀ (xs : List AV) (us : List Value), RepCL ι av w xs us → RepCL ι' av' w' xs us
  | [], _, hr => by simpa [RepCL] using hr
  | x :: r, _, hr => by
    simp only [RepCL] at hr ⊢
    obtain ⟨u, us', rfl, hx, h1, hr⟩ := hr
    exact ⟨u, us', rfl, RepC.held hι h x u hx, h1, RepCL.held hι h r us' hr⟩
theorem RepCT.held {ι ι' : Ix} {av av' : Av} {w w' : World} (hι : ∀ t n b, ι t n = some b → ι' t n = some b) (h : Held av av' w w') : ∀ (xs : List AV) (us : List Value), RepCT ι av w xs us → RepCT ι' av' w' xs us
  | [], _, hr => by simpa [RepCT] using hr
  | x :: r, _, hr => by
    simp only [RepCT] at hr ⊢
    obtain ⟨u, us', rfl, hx, hr⟩ := hr
    exact ⟨u, us', rfl, RepC.held hι h x u hx, RepCT.held hι h r us' hr⟩
theorem RepS.held {ι ι' : Ix} {av av' avB avB' : Av} {w w' : World} (hι : ∀ t n b, ι t n = some b → ι' t n = some b) (h : Held av av' w w') (hB : Held avB avB' w w') (x : AV) (v : Value) (hr : RepS ι av avB w x v) : RepS ι' av' avB' w' x v := by
  match x, hr with
  | .bp cs, ⟨b, off, hv, hc⟩ => exact ⟨b, off, hv, CellsB.held h hB _ b off hc⟩
  | .bl l, ⟨a, c, hv, hl, hu, hc⟩ =>
    refine ⟨a, c, hv, hl, hu, fun h0 => ?_⟩
    obtain ⟨b, off, ha, hr⟩ := hc h0
    exact ⟨b, off, ha, RowsB.held h hB _ b off hr⟩
  | .agg cs, ⟨us, hv, hc⟩ => exact ⟨us, hv, RepCL.held hι h _ _ hc⟩
  | .undef, _ => trivial
  | .int k n, hr => exact RepC.held hι h (.int k n) v hr
  | .bool b, hr => exact RepC.held hι h (.bool b) v hr
  | .str s, hr => exact RepC.held hι h (.str s) v hr
  | .nilP, hr => exact RepC.held hι h .nilP v hr
  | .ptr t n off, hr => exact RepC.held hι h (.ptr t n off) v hr
  | .ip cs, hr => exact RepC.held hι h (.ip cs) v hr
  | .sl n l, hr => exact RepC.held hι h (.sl n l) v hr
  | .ref t n sz off len cap, hr => exact RepC.held hι h (.ref t n sz off len cap) v hr
  | .tup vs, ⟨us, hv, hc⟩ => exact ⟨us, hv, RepCT.held hι h _ _ hc⟩
end Go.Proofs.Ytinpinjjdkilpaa
