/- The two map types' keys, and equality of the structs that are compared. -/
import Derived.Test.YtinpinjjdkilpaaLib
namespace Go.Proofs.Ytinpinjjdkilpaa
open Go.RowKit

def keI (k : Int) : Value := .int .i64 k
def keP (k : Int × Int) : Value := .agg #[.int .i64 k.1, .int .i64 k.2]

theorem u73 : Try.prog.underlying 73 = some (.array 2 3) := by kernel_rfl
theorem u3 : Try.prog.underlying 3 = some (.int .i64) := by kernel_rfl
theorem u2 : Try.prog.underlying 2 = some (.int .i64) := by kernel_rfl
theorem part3 (cs : Array Value) (i : Nat) (v : Value) (w : World) (h : cs[i]? = some v) : (part 3 cs i).run Try.prog w = .ok v w := by
  simp [part, isAgg, run_underlying u3, h]

theorem eqP_d (d : Nat) (a b c e : Int) (w : World) : (Op.equalIn (d + 2) 73 (.agg #[.int .i64 a, .int .i64 b]) (.agg #[.int .i64 c, .int .i64 e])).run Try.prog w = .ok (a == c && b == e) w := by
  have h3 : (sizeOf 3).run Try.prog w = .ok 1 w := by kernel_rfl
  have hq : ∀ (x y : Int), (Op.equalIn (d + 1) 3 (.int .i64 x) (.int .i64 y)).run Try.prog w = .ok (x == y) w := fun x y => by simp [Op.equalIn, run_underlying u3]
  have p1 := part3 #[.int .i64 a, .int .i64 b] 0 _ w rfl
  have p2 := part3 #[.int .i64 a, .int .i64 b] 1 _ w rfl
  have p3 := part3 #[.int .i64 c, .int .i64 e] 0 _ w rfl
  have p4 := part3 #[.int .i64 c, .int .i64 e] 1 _ w rfl
  unfold Op.equalIn
  simp only [Sem.run_bind, run_underlying u73, Result.andThen_ok, h3]
  simp [Std.Legacy.Range.forIn_eq_forIn_range', Std.Legacy.Range.size, List.range', p1, p2, p3, p4, hq]
  by_cases h : a = c
  · by_cases h' : b = e <;> simp [h, h']
  · simp [h]
theorem eqP (a b c e : Int) (w : World) : (Op.equalIn 10000 73 (.agg #[.int .i64 a, .int .i64 b]) (.agg #[.int .i64 c, .int .i64 e])).run Try.prog w = .ok (a == c && b == e) w := eqP_d 9998 a b c e w

theorem checkP_d (d : Nat) (empty : Bool) (a b : Int) (w : World) : (Instr.checkKey empty (d + 2) 73 (.agg #[.int .i64 a, .int .i64 b])).run Try.prog w = .ok () w := by
  have h3 : (sizeOf 3).run Try.prog w = .ok 1 w := by kernel_rfl
  have hq : ∀ (x : Int), (Instr.checkKey empty (d + 1) 3 (.int .i64 x)).run Try.prog w = .ok () w := fun x => by simp [Instr.checkKey, run_underlying u3]
  have p1 := part3 #[.int .i64 a, .int .i64 b] 0 _ w rfl
  have p2 := part3 #[.int .i64 a, .int .i64 b] 1 _ w rfl
  unfold Instr.checkKey
  simp only [Sem.run_bind, run_underlying u73, Result.andThen_ok]
  simp [Std.Legacy.Range.forIn_eq_forIn_range', Std.Legacy.Range.size, List.range', h3, p1, p2, hq]

/-- asking one entry behind the other -/
theorem findAsking_run {κ : Type} [DecidableEq κ] {P : Program} {T : TypeId} {ke : κ → Value} (heq : ∀ (k k' : κ) (w : World), (Op.equal T (ke k) (ke k')).run P w = .ok (decide (k = k')) w) (k : κ) (w : World) :
    ∀ (es : List MapEntry) (L : List (κ × Value)) (n : Nat), es.map (fun e => (e.key, e.val)) = L.map (fun p => (ke p.1, p.2)) →
      (Instr.findAsking T (ke k) es n).run P w = .ok (((L.map (·.1)).idxOf? k).bind fun i => (L[i]?).map fun p => (n + i, p.2)) w
  | [], [], n, _ => by simp [Instr.findAsking]
  | [], _ :: _, _, h => by simp at h
  | _ :: _, [], _, h => by simp at h
  | e :: es, p :: L, n, h => by
    simp only [List.map_cons, List.cons.injEq, Prod.mk.injEq] at h
    obtain ⟨⟨h1, h2⟩, h3⟩ := h
    have ih := findAsking_run heq k w es L (n + 1) h3
    simp only [Instr.findAsking, Sem.run_bind, h1, heq, Result.andThen_ok, List.map_cons, List.idxOf?_cons]
    by_cases hk : k = p.1
    · subst hk; simp [h2]
    · have hb : (p.1 == k) = false := by simpa using fun e : p.1 = k => hk e.symm
      simp only [hk, decide_false, Bool.false_eq_true, if_false, hb, ih]
      cases hi : List.idxOf? k (List.map (fun x => x.1) L) with
      | none => simp
      | some i => simp [Nat.add_assoc, Nat.add_comm 1 i]

theorem findNow_P (a : Value) (es : List MapEntry) (n : Nat) : es ≠ [] → Instr.findNow (.array 2 3) a es n = none := by
  intro h
  cases es with
  | nil => exact absurd rfl h
  | cons e es => simp [Instr.findNow, Instr.sameNow]

theorem findNow_I (k : Int) : ∀ (es : List MapEntry) (L : List (Int × Value)) (n : Nat), es.map (fun e => (e.key, e.val)) = L.map (fun p => (keI p.1, p.2)) →
      Instr.findNow (.int .i64) (keI k) es n = some (((L.map (·.1)).idxOf? k).bind fun i => (L[i]?).map fun p => (n + i, p.2))
  | [], [], n, _ => by simp [Instr.findNow]
  | [], _ :: _, _, h => by simp at h
  | _ :: _, [], _, h => by simp at h
  | e :: es, p :: L, n, h => by
    simp only [List.map_cons, List.cons.injEq, Prod.mk.injEq] at h
    obtain ⟨⟨h1, h2⟩, h3⟩ := h
    have ih := findNow_I k es L (n + 1) h3
    have hs : Instr.sameNow (.int .i64) (keI k) e.key = some (k == p.1) := by rw [h1]; simp [keI, Instr.sameNow]
    simp only [Instr.findNow, hs, List.map_cons, List.idxOf?_cons]
    by_cases hk : k = p.1
    · subst hk; simp [h2]
    · have hb : (p.1 == k) = false := by simpa using fun e : p.1 = k => hk e.symm
      have hb' : (k == p.1) = false := by simpa using hk
      simp only [hb, hb', ih]
      cases hi : List.idxOf? k (List.map (fun x => x.1) L) with
      | none => simp
      | some i => simp [Nat.add_assoc, Nat.add_comm 1 i]

theorem lawP : KeyLaw Try.prog 73 keP where
  check empty k w := checkP_d 9998 empty k.1 k.2 w
  find k es L w h := by
    have heq : ∀ (k k' : Int × Int) (w : World), (Op.equal 73 (keP k) (keP k')).run Try.prog w = .ok (decide (k = k')) w := fun k k' w => by
      have := eqP k.1 k.2 k'.1 k'.2 w
      unfold Op.equal Op.maxDepth keP
      rw [this]
      congr 1
      rw [Bool.eq_iff_iff]
      simp [Prod.ext_iff]
    cases es with
    | nil =>
      cases L with
      | nil => simp [Instr.findKey, run_underlying u73, Instr.findNow]
      | cons p L => simp at h
    | cons e es =>
      have := findAsking_run heq k w (e :: es) L 0 h
      simp only [Instr.findKey, Sem.run_bind, run_underlying u73, Result.andThen_ok, findNow_P (keP k) (e :: es) 0 (by simp), this, Nat.zero_add]
  same k := by
    have hq : ∀ (d : Nat), Instr.sameBits (d + 2) (keP k) (keP k) = true := fun d => by simp [keP, Instr.sameBits]
    exact hq 9998
theorem lawI : KeyLaw Try.prog 2 keI where
  check empty k w := by
    have hq : ∀ (d : Nat), (Instr.checkKey empty (d + 1) 2 (keI k)).run Try.prog w = .ok () w := fun d => by simp [keI, Instr.checkKey, run_underlying u2]
    exact hq 9999
  find k es L w h := by
    simp only [Instr.findKey, Sem.run_bind, run_underlying u2, Result.andThen_ok, findNow_I k es L 0 h, Nat.zero_add, Sem.run_pure]
  same k := by
    have hq : ∀ (d : Nat), Instr.sameBits (d + 1) (keI k) (keI k) = true := fun d => by simp [keI, Instr.sameBits]
    exact hq 9999
end Go.Proofs.Ytinpinjjdkilpaa
