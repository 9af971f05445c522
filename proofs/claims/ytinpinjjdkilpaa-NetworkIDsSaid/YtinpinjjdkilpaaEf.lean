/- The operations, one by one. -/
import Derived.Test.YtinpinjjdkilpaaEe
import Derived.ChangeKeysEq
namespace Go.Proofs.Ytinpinjjdkilpaa
open Go Go.RowKit
section
variable {P : Program} {O : Objs} {nt B : Nat} {F0 : Own} {av0 : Av} {w0 : World} {D : Nat → Prop} {s : MSt} {a : Act} {w w' : World} {ι : Ix} {Θ : Fam} {o : Oper}
theorem RepC_to_S {av avb : Av} {x : AV} {u : Value} (h : RepC ι av w x u) (h1 : u.oneCell' = true) : RepS ι av avb w x u := by
  cases x <;> first | exact h | (simp [RepC, Rep] at h; obtain ⟨us', rfl, _⟩ := h; simp [Value.oneCell'] at h1; done) | (simp [RepC, Rep] at h; done)
theorem val_mv (R : Rel P O nt B F0 av0 w0 D s a w ι Θ) {X : Operand} {y : Opd} (h : opd X = some y) (ho : o.op = .move X ∨ o.op = .assign X) : Val P av0 a w ι Θ o ⟨y.get s, y.an s⟩ :=
  ⟨a.eval X, by rcases ho with ho | ho <;> simp [execOp, ho], (R.opd h).1, (R.opd h).2⟩
theorem val_pick (R : Rel P O nt B F0 av0 w0 D s a w ι Θ) {C X Y : Operand} {c x y : Opd} (hc : opd C = some c) (hx : opd X = some x) (hy : opd Y = some y) (ho : o.op = .pick C X Y) {t : Bool} (ht : c.get s = .bool t) :
    Val P av0 a w ι Θ o (if t then ⟨x.get s, x.an s⟩ else ⟨y.get s, y.an s⟩) := by
  have h := (R.opd hc).1
  rw [ht, repS_bool] at h
  cases t with
  | true => exact ⟨a.eval X, by simp [execOp, ho, h, asBool], (R.opd hx).1, (R.opd hx).2⟩
  | false => exact ⟨a.eval Y, by simp [execOp, ho, h, asBool], (R.opd hy).1, (R.opd hy).2⟩
/-- a row of the call's own, as cells -/
theorem RowOk.rep {av : Av} {r : List Slot} {cur : Array Value} (h : RowOk ι Θ av w r cur) : RepCL ι av w (r.map (·.v)) cur.toList := by
  obtain ⟨hl, hj⟩ := h
  obtain ⟨l⟩ := cur
  simp only [List.size_toArray] at hl
  simp only [List.getElem?_toArray] at hj
  simp only
  induction r generalizing l with
  | nil => simp at hl; subst hl; rfl
  | cons x r ih =>
    cases l with
    | nil => simp at hl
    | cons u us =>
      obtain ⟨u', hu, h1, hr, _⟩ := hj 0 x rfl
      simp at hu
      subst hu
      exact ⟨_, us, rfl, hr, h1, ih us (by simpa using hl) fun j y hy => hj (j + 1) y hy⟩
theorem load_run {t : TypeId} {agg : Bool} {z : Nat} (hA : tAgg P t = some agg) (hz : tSize P t = some z) {av avb : Av} {cs : List AV} {us : List Value} (h : RepCL ι av w cs us) {b off : Nat} (hus : ∀ (j : Nat) (u : Value), us[j]? = some u → w.cell? ⟨b, off + j, none⟩ = some u)
    {x : AV} (hx : loadI agg z cs = some x) : ∃ v, (loadVar t ⟨b, off, none⟩).run P w = .ok v w ∧ RepS ι av avb w x v ∧ (agg = false → w.cell? ⟨b, off, none⟩ = some v) := by
  cases agg with
  | true =>
    simp only [loadI, if_true] at hx
    split at hx
    · rename_i hle
      injection hx with hx
      subst hx
      have hlen := RepCL_length h
      have hl : (us.take z).length = z := by rw [List.length_take, hlen]; omega
      have hr := run_loadCells_list (P := P) w ⟨b, off, none⟩ (us.take z) (fun j v hv => by
        rw [Addr.add_lit]
        refine hus j v ?_
        rw [List.getElem?_take] at hv
        split at hv
        · exact hv
        · cases hv)
      rw [hl] at hr
      exact ⟨.agg (us.take z).toArray, by simp [loadVar, tAgg_run hA, tSize_run hz, hr], ⟨_, rfl, RepCL_take z h⟩, fun h => by cases h⟩
    · cases hx
  | false =>
    simp only [loadI, Bool.false_eq_true, if_false] at hx
    obtain ⟨u, hu, h1, hr⟩ := RepCL_get h hx
    have hc := hus 0 u hu
    rw [Nat.add_zero] at hc
    refine ⟨u, by simp [loadVar, tAgg_run hA, hc], RepC_to_S hr h1, fun _ => hc⟩
theorem val_load (R : Rel P O nt B F0 av0 w0 D s a w ι Θ) {t : TypeId} {agg : Bool} {z : Nat} (hA : tAgg P t = some agg) (hz : tSize P t = some z) {X : Operand} {y : Opd} (h : opd X = some y) (ho : o.op = .load t X) {cl : Cl} {call} {x : Slot} {e : Eff}
    (hr : (K.load cl agg z y).run call s = some (x, e)) : e = .none ∧ Val P av0 a w ι Θ o x := by
  have hX := (R.opd h).1
  simp only [K.run] at hr
  split at hr
  · rename_i t' n off hy
    rw [hy, repS_ptr] at hX
    obtain ⟨b, hb, hv⟩ := hX
    split at hr
    · cases hm : s.mem t' n with
      | none => rw [hm] at hr; cases hr
      | some r =>
        rw [hm, Option.bind_some] at hr
        obtain ⟨hnob, b', cur, ty, hb', hheap, hrow⟩ := R.rows t' n r hm
        rw [hb] at hb'
        injection hb' with hb'
        subst hb'
        have hcell : ∀ (j : Nat) (u : Value), (cur.toList.drop off)[j]? = some u → w.cell? ⟨b, off + j, none⟩ = some u := fun j u hu => by
          rw [cell_of_row w b (off + j) cur ty (0, 0) hheap]
          simpa [List.getElem?_drop] using hu
        cases hl : loadC agg z off r with
        | none => rw [hl] at hr; cases hr
        | some y' =>
          rw [hl] at hr
          injection hr with hr
          injection hr with h1 h2
          subst h1; subst h2
          refine ⟨rfl, ?_⟩
          have hrep := RepCL_drop off hrow.rep
          have hi : loadI agg z ((r.map (·.v)).drop off) = some y'.v := by
            cases agg with
            | true =>
              simp only [loadC, if_true] at hl
              split at hl
              · rename_i hle
                injection hl with hl
                subst hl
                simp only [loadI, if_true, List.length_drop, List.length_map]
                rw [if_pos (by omega)]
                simp [List.map_take, List.map_drop]
              · cases hl
            | false =>
              simp only [loadC, Bool.false_eq_true, if_false] at hl
              simp [loadI, List.getElem?_drop, hl]
          obtain ⟨v, hrun, hS, hc⟩ := load_run (avb := avB ι Θ) hA hz hrep hcell hi
          refine ⟨v, by simp [execOp, ho, Instr.loadAt, Instr.sureAddr, hv, hrun], hS, ?_⟩
          cases agg with
          | true =>
            simp only [loadC, if_true] at hl
            split at hl
            · injection hl with hl; subst hl; trivial
            · cases hl
          | false =>
            simp only [loadC, Bool.false_eq_true, if_false] at hl
            obtain ⟨u, hu, _, _, ha⟩ := hrow.2 off y' hl
            have h3 := hc rfl
            rw [cell_of_row w b off cur ty (0, 0) hheap, hu] at h3
            injection h3 with h3
            subst h3
            exact ha
    · cases hr
  · rename_i cs hy
    rw [hy, repS_ip] at hX
    obtain ⟨b, off, hv, hcs⟩ := hX
    obtain ⟨us, hl, hus⟩ := Cells_read hcs
    split at hr
    · cases hr
    · cases hi : loadI agg z cs with
      | none => rw [hi] at hr; cases hr
      | some x' =>
        rw [hi] at hr
        injection hr with hr
        injection hr with h1 h2
        subst h1; subst h2
        obtain ⟨v, hrun, hS, _⟩ := load_run (avb := avB ι Θ) hA hz (RepCL_ofL (ι := ι) hl) (fun j u hu => (hus j u hu).1) hi
        exact ⟨rfl, v, by simp [execOp, ho, Instr.loadAt, Instr.sureAddr, hv, hrun], hS, trivial⟩
  · rename_i cs hy
    rw [hy] at hX
    obtain ⟨b, off, hv, hcs⟩ := hX
    obtain ⟨us, hl, hus⟩ := CellsB_read hcs
    split at hr
    · cases hr
    · cases hi : loadI agg z cs with
      | none => rw [hi] at hr; cases hr
      | some x' =>
        rw [hi] at hr
        injection hr with hr
        injection hr with h1 h2
        subst h1; subst h2
        obtain ⟨v, hrun, hS, _⟩ := load_run (avb := avB ι Θ) hA hz (RepCL_ofL (ι := ι) hl) (fun j u hu => (hus j u hu).1) hi
        exact ⟨rfl, v, by simp [execOp, ho, Instr.loadAt, Instr.sureAddr, hv, hrun], hS, trivial⟩
  · cases hr
theorem bytes_eq (a b : ByteArray) : (a.toList == b.toList) = decide (a = b) := by
  rw [ByteArray.toList_eq, ByteArray.toList_eq]
  obtain ⟨⟨x⟩⟩ := a
  obtain ⟨⟨y⟩⟩ := b
  rw [Bool.eq_iff_iff]
  simp
theorem exec_bin {op : BinOp} {t t' : TypeId} {X Y : Operand} {u v r : Value} (ho : o.op = .binOp op t X Y t') (hX : a.eval X = u) (hY : a.eval Y = v) (hu : u.oneCell' = true) (hn : u ≠ .nilIface) (hv : (Go.binOp op t u v).run P w = .ok r w) : (execOp a.eval o).run P w = .ok (.value r) w := by
  have hg : (eqGuard op t X Y u v).run P w = .ok () w := by
    unfold eqGuard
    cases u <;> first | exact absurd rfl hn | (simp [Value.oneCell'] at hu; done) | (simp; done) | (split <;> simp; done)
  simp [execOp, ho, hX, hY, hg, hv]
theorem val_bin (R : Rel P O nt B F0 av0 w0 D s a w ι Θ) {op : BinOp} {t t' : TypeId} {bl : Bool} (ht : bl = true → P.underlying t = some .bool) {X Y : Operand} {x y : Opd} (hx : opd X = some x) (hy : opd Y = some y) (ho : o.op = .binOp op t X Y t') {v : AV} (hr : binC op bl (x.get s) (y.get s) = some v) :
    Val P av0 a w ι Θ o ⟨v, .no⟩ := by
  have hX := (R.opd hx).1
  have hY := (R.opd hy).1
  unfold binC at hr
  split at hr
  · rename_i k n k' n' e1 e2
    rw [e1, repS_int] at hX
    rw [e2, repS_int] at hY
    split at hr
    · rename_i hk
      subst hk
      cases op <;> simp only at hr
      case add => injection hr with hr; subst hr; exact ⟨.int k (k.wrap (n + n')), exec_bin ho hX hY rfl (by simp) (by simp [Go.binOp, Op.intArith]), by rw [repS_int], trivial⟩
      case sub => injection hr with hr; subst hr; exact ⟨.int k (k.wrap (n - n')), exec_bin ho hX hY rfl (by simp) (by simp [Go.binOp, Op.intArith]), by rw [repS_int], trivial⟩
      case mul => injection hr with hr; subst hr; exact ⟨.int k (k.wrap (n * n')), exec_bin ho hX hY rfl (by simp) (by simp [Go.binOp, Op.intArith]), by rw [repS_int], trivial⟩
      case quo =>
        split at hr
        · cases hr
        · rename_i h0
          injection hr with hr
          subst hr
          exact ⟨.int k (k.wrap (n.tdiv n')), exec_bin ho hX hY rfl (by simp) (by simp [Go.binOp, Op.intDiv, h0]), by rw [repS_int], trivial⟩
      case rem =>
        split at hr
        · cases hr
        · rename_i h0
          injection hr with hr
          subst hr
          exact ⟨.int k (n.tmod n'), exec_bin ho hX hY rfl (by simp) (by simp [Go.binOp, Op.intDiv, h0]), by rw [repS_int], trivial⟩
      case eql => injection hr with hr; subst hr; exact ⟨.bool (n == n'), exec_bin ho hX hY rfl (by simp) (by simp [Go.binOp, Op.intCmp]), repS_bool.2 (congrArg Value.bool (by first | rfl | (rw [Bool.eq_iff_iff]; simp))), trivial⟩
      case neq => injection hr with hr; subst hr; exact ⟨.bool (n != n'), exec_bin ho hX hY rfl (by simp) (by simp [Go.binOp, Op.intCmp]), repS_bool.2 (congrArg Value.bool (by first | rfl | (rw [Bool.eq_iff_iff]; simp))), trivial⟩
      case lss => injection hr with hr; subst hr; exact ⟨.bool (decide (n < n')), exec_bin ho hX hY rfl (by simp) (by simp [Go.binOp, Op.intCmp]), repS_bool.2 (congrArg Value.bool (by first | rfl | (rw [Bool.eq_iff_iff]; simp))), trivial⟩
      case leq => injection hr with hr; subst hr; exact ⟨.bool (decide (n ≤ n')), exec_bin ho hX hY rfl (by simp) (by simp [Go.binOp, Op.intCmp]), repS_bool.2 (congrArg Value.bool (by first | rfl | (rw [Bool.eq_iff_iff]; simp))), trivial⟩
      case gtr => injection hr with hr; subst hr; exact ⟨.bool (decide (n > n')), exec_bin ho hX hY rfl (by simp) (by simp [Go.binOp, Op.intCmp]), repS_bool.2 (congrArg Value.bool (by first | rfl | (rw [Bool.eq_iff_iff]; simp))), trivial⟩
      case geq => injection hr with hr; subst hr; exact ⟨.bool (decide (n ≥ n')), exec_bin ho hX hY rfl (by simp) (by simp [Go.binOp, Op.intCmp]), repS_bool.2 (congrArg Value.bool (by first | rfl | (rw [Bool.eq_iff_iff]; simp))), trivial⟩
      all_goals cases hr
    · cases hr
  · rename_i n n' e1 e2
    rw [e1, repS_str] at hX
    rw [e2, repS_str] at hY
    cases op <;> simp only at hr
    case add =>
      split at hr
      · rename_i hle
        injection hr with hr
        subst hr
        have hm : IntKind.i64.max = 9223372036854775807 := by decide
        have : ¬ ((n.size + n'.size : Nat) : Int) > IntKind.i64.max := by rw [hm]; omega
        exact ⟨.string (n ++ n'), exec_bin ho hX hY rfl (by simp) (by simp only [Go.binOp, Op.stringOp, if_neg this]; simp), by rw [repS_str], trivial⟩
      · cases hr
    case eql => injection hr with hr; subst hr; exact ⟨.bool (n.toList == n'.toList), exec_bin ho hX hY rfl (by simp) (by simp [Go.binOp, Op.stringOp]), repS_bool.2 (congrArg Value.bool (by first | rfl | (rw [bytes_eq]))), trivial⟩
    case neq => injection hr with hr; subst hr; exact ⟨.bool (!(n.toList == n'.toList)), exec_bin ho hX hY rfl (by simp) (by simp [Go.binOp, Op.stringOp]), repS_bool.2 (congrArg Value.bool (by first | rfl | (rw [bytes_eq]))), trivial⟩
    case lss => injection hr with hr; subst hr; exact ⟨.bool (Op.bytesLess n.toList n'.toList), exec_bin ho hX hY rfl (by simp) (by simp [Go.binOp, Op.stringOp]), repS_bool.2 (congrArg Value.bool (by first | rfl | (rw [bytes_eq]))), trivial⟩
    case gtr => injection hr with hr; subst hr; exact ⟨.bool (!(Op.bytesLess n.toList n'.toList || n.toList == n'.toList)), exec_bin ho hX hY rfl (by simp) (by simp [Go.binOp, Op.stringOp]), by rw [repS_bool, bytes_eq], trivial⟩
    case leq => injection hr with hr; subst hr; exact ⟨.bool (Op.bytesLess n.toList n'.toList || n.toList == n'.toList), exec_bin ho hX hY rfl (by simp) (by simp [Go.binOp, Op.stringOp]), by rw [repS_bool, bytes_eq], trivial⟩
    case geq => injection hr with hr; subst hr; exact ⟨.bool (!Op.bytesLess n.toList n'.toList), exec_bin ho hX hY rfl (by simp) (by simp [Go.binOp, Op.stringOp]), by rw [repS_bool], trivial⟩
    all_goals cases hr
  · rename_i n n' e1 e2
    rw [e1, repS_bool] at hX
    rw [e2, repS_bool] at hY
    split at hr
    case isFalse => cases hr
    rename_i hb
    have hq : (Op.equal t (.bool n) (.bool n')).run P w = .ok (n == n') w := run_equalIn_bool' w 9999 t n n' (ht hb)
    cases op <;> simp only at hr
    case eql => injection hr with hr; subst hr; exact ⟨.bool (n == n'), exec_bin ho hX hY rfl (by simp) (by simp [Go.binOp, hq]), by rw [repS_bool], trivial⟩
    case neq => injection hr with hr; subst hr; exact ⟨.bool (!(n == n')), exec_bin ho hX hY rfl (by simp) (by simp [Go.binOp, hq]), by rw [repS_bool], trivial⟩
    all_goals cases hr
  · cases hr
end
end Go.Proofs.Ytinpinjjdkilpaa
