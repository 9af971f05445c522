/- Same, New of the reference -/
import Derived.Test.YtinpinjjdkilpaaSu
namespace Go.Proofs.Ytinpinjjdkilpaa
open Go.RowKit
theorem u9 : Try.prog.underlying 9 = some .string := by kernel_rfl
theorem part_one {t : TypeId} {d : TypeDesc} (hd : Try.prog.underlying t = some d) (hn : ∀ fs, d ≠ .struct fs) (hn' : ∀ n e, d ≠ .array n e) (cs : Array Value) (i : Nat) (v : Value) (w : World) (h : cs[i]? = some v) : (part t cs i).run Try.prog w = .ok v w := by
  cases d <;> first | (simp [part, isAgg, run_underlying hd, h]; done) | exact absurd rfl (hn _) | exact absurd rfl (hn' _ _)
theorem eqPkt_d (d : Nat) (p q : Pkt) (w : World) : (Op.equalIn (d + 2) 42 p.val q.val).run Try.prog w = .ok (decide (p = q)) w := by
  have hf : Try.prog.fieldsOf 42 = #[{ name := "ID", type := 2, offset := 0, embedded := false, tag := "", pkgPath := "", byteOffset := 0 }, { name := "From", type := 3, offset := 1, embedded := false, tag := "", pkgPath := "", byteOffset := 8 }, { name := "To", type := 3, offset := 2, embedded := false, tag := "", pkgPath := "", byteOffset := 16 }, { name := "Data", type := 9, offset := 3, embedded := false, tag := "", pkgPath := "", byteOffset := 24 }] := by kernel_rfl
  have hu : Try.prog.underlying 42 = some (.struct (Try.prog.fieldsOf 42)) := by kernel_rfl
  have hp : Try.prog.stoodInHeld 42 = false := by kernel_rfl
  have a0 : ∀ (x y z : Int) (s : ByteArray) w, (part 2 #[.int .i64 x, .int .i64 y, .int .i64 z, .string s] 0).run Try.prog w = .ok (.int .i64 x) w := fun x y z s w => part_one u2 (by simp) (by simp) _ _ _ _ rfl
  have a1 : ∀ (x y z : Int) (s : ByteArray) w, (part 3 #[.int .i64 x, .int .i64 y, .int .i64 z, .string s] 1).run Try.prog w = .ok (.int .i64 y) w := fun x y z s w => part_one u3 (by simp) (by simp) _ _ _ _ rfl
  have a2 : ∀ (x y z : Int) (s : ByteArray) w, (part 3 #[.int .i64 x, .int .i64 y, .int .i64 z, .string s] 2).run Try.prog w = .ok (.int .i64 z) w := fun x y z s w => part_one u3 (by simp) (by simp) _ _ _ _ rfl
  have a3 : ∀ (x y z : Int) (s : ByteArray) w, (part 9 #[.int .i64 x, .int .i64 y, .int .i64 z, .string s] 3).run Try.prog w = .ok (.string s) w := fun x y z s w => part_one u9 (by simp) (by simp) _ _ _ _ rfl
  have b1 := fun a b w => run_equalIn_int (P := Try.prog) w d 2 .i64 .i64 a b u2
  have b2 := fun a b w => run_equalIn_int (P := Try.prog) w d 3 .i64 .i64 a b u3
  have b3 := fun a b w => run_equalIn_string (P := Try.prog) w d 9 a b u9
  have hb : ∀ a b : ByteArray, (a.toList == b.toList) = decide (a = b) := fun a b => by
    rw [ByteArray.toList_eq, ByteArray.toList_eq]
    obtain ⟨⟨x⟩⟩ := a
    obtain ⟨⟨y⟩⟩ := b
    rw [Bool.eq_iff_iff]
    simp
  unfold Pkt.val
  rw [run_equalIn_struct w (d + 1) _ _ _ hu hp, hf]
  have hpq : (p = q) ↔ (p.id = q.id ∧ p.src = q.src ∧ p.dst = q.dst ∧ p.data = q.data) := by
    obtain ⟨p0, p1, p2, p3⟩ := p
    obtain ⟨q0, q1, q2, q3⟩ := q
    simp only [Pkt.mk.injEq]
  by_cases h0 : p.id = q.id
  · by_cases h1 : p.src = q.src
    · by_cases h2 : p.dst = q.dst
      · by_cases h3 : p.data = q.data <;> simp [Op.eqFields, a0, a1, a2, a3, b1, b2, b3, hb, hpq, h0, h1, h2, h3]
      · simp [Op.eqFields, a0, a1, a2, b1, b2, hpq, h0, h1, h2]
    · simp [Op.eqFields, a0, a1, b1, b2, hpq, h0, h1]
  · simp [Op.eqFields, a0, b1, hpq, h0]
theorem eqPkt (p q : Pkt) (w : World) : (Op.equalIn 10000 42 (.agg #[.int .i64 p.id, .int .i64 p.src, .int .i64 p.dst, .string p.data]) (.agg #[.int .i64 q.id, .int .i64 q.src, .int .i64 q.dst, .string q.data])).run Try.prog w = .ok (decide (p = q)) w := eqPkt_d 9998 p q w
set_option maxHeartbeats 1000000 in
theorem same_any (av av' : Nat → Prop) (v v' : Value) (l l' : List Pkt) (b : Bool) (w : World) (h : PSl av w v l) (h' : PSl av' w v' l') (hl : l.length ≤ 1000) (hb : decide (l = l') = b) :
    Calls Try.prog 22 #[v, v'] w fun e w' => e = .returned (.bool b) ∧ ∃ n, w' = w.drewN n := by
  subst hb
  obtain ⟨A, c, rfl, _⟩ := PSl.shape h
  obtain ⟨A', c', rfl, _⟩ := PSl.shape h'
  have H := hid h
  have H' := hid h'
  clear h h'
  by_cases hlen : l.length = l'.length
  · have hne : ((l.length : Int) != (l'.length : Int)) = false := by simp [hlen]
    have HL := hid hlen
    clear hlen
    go_enter Try.func22, Try.ntmps22
    go_wp2_with fail
    go_loopw [5] (fun i wr => ∃ k : Nat, k ≤ l.length ∧ i = .int .i64 k ∧ Hid (∃ n, wr = w.drewN n) ∧ Hid (l.take k = l'.take k)) (fun i _ => l.length - (intOf i).toNat)
    case atStart => exact ⟨0, by omega, rfl, hid ⟨0, rfl⟩, hid (by simp)⟩
    case round =>
      obtain ⟨k, hk, rfl, ⟨n, rfl⟩, htk⟩ := hrel
      by_cases hlt : k < l.length
      · have hlt' : k < l'.length := by have := HL.out; omega
        obtain ⟨b, off, c1, hA, hbl, _, h0, h1, h2, h3⟩ := PSl.at_ H.out hlt
        obtain ⟨b', off', c1', hA', hbl', _, h0', h1', h2', h3'⟩ := PSl.at_ H'.out hlt'
        injection hA with hA _ hc
        subst hA; subst hc
        injection hA' with hA' _ hc
        subst hA'; subst hc
        cases hp : decide (l[k] = l'[k]) with
        | true =>
          have heq := fun w => eqPkt l[k] l'[k] w
          rw [hp] at heq
          have HP := hid hp
          clear hp
          go_wp2_with fail
          go_quiet (fail)
          go_wp2_with fail
          go_roundw
          case rel => exact ⟨k + 1, by omega, by go_num, hid ⟨_, rfl⟩, hid (by rw [List.take_succ_eq_append_getElem hlt, List.take_succ_eq_append_getElem hlt', htk.out, of_decide_eq_true HP.out])⟩
          case measure => simp [intOf]; omega
        | false =>
          have heq := fun w => eqPkt l[k] l'[k] w
          rw [hp] at heq
          have HP := hid hp
          clear hp
          go_wp2_with fail
          go_quiet (fail)
          go_wp2_with fail
          go_ret
          refine ⟨?_, ⟨_, World.drewN_drewN _ _ _⟩⟩
          have : decide (l = l') = false := decide_eq_false (fun e => by subst e; exact absurd rfl (of_decide_eq_false HP.out))
          rw [this]
          rfl
      · obtain rfl : k = l.length := by omega
        go_wp2_with fail
        go_ret
        refine ⟨?_, ⟨n, rfl⟩⟩
        have h2 := htk.out
        rw [List.take_length, HL.out, List.take_length] at h2
        rw [decide_eq_true h2]
        rfl
  · have hne : ((l.length : Int) != (l'.length : Int)) = true := by simp; omega
    have HL := hid hlen
    clear hlen
    go_enter Try.func22, Try.ntmps22
    go_wp2_with fail
    go_ret
    refine ⟨?_, ⟨0, rfl⟩⟩
    rw [decide_eq_false (fun e => HL.out (by rw [e]))]
    rfl
end Go.Proofs.Ytinpinjjdkilpaa
