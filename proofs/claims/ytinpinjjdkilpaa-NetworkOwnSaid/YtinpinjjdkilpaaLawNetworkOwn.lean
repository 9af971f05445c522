/- sheavelaw48.NetworkOwn: for every input it returns true and leaves its input as it was. No condition. -/
import Derived.Test.YtinpinjjdkilpaaMc
import Derived.Test.YtinpinjjdkilpaaMd
set_option linter.unusedSimpArgs false
set_option linter.unusedVariables false
set_option linter.unusedSectionVars false
/- The network as an object of the machine: its methods' contracts. -/
namespace Go.Proofs.Ytinpinjjdkilpaa
open Go Go.RowKit
def Pkt.cv (p : Pkt) : List AV := [.int .i64 p.id, .int .i64 p.src, .int .i64 p.dst, .str p.data]
def cutA (c : (Int × Int) × Bool) : AV := .agg [.int .i64 c.1.1, .int .i64 c.1.2, .bool c.2]
def pksA (l : List Pkt) : AV := .sl false (l.map Pkt.cv)
def encN (S : Net) : AV := .tup [.int .i64 S.n, .int .i64 S.last, pksA S.l, .tup (S.cut.map cutA)]
def decP : List AV → Option Pkt
  | [.int _ a, .int _ b, .int _ c, .str d] => some ⟨a, b, c, d⟩
  | _ => none
def decC : AV → Option ((Int × Int) × Bool)
  | .agg [.int _ a, .int _ b, .bool c] => some ((a, b), c)
  | _ => none
def decN : AV → Option Net
  | .tup [.int _ n, .int _ last, .sl _ l, .tup c] => some ⟨n, last, l.filterMap decP, c.filterMap decC⟩
  | _ => none
theorem decN_enc (S : Net) : decN (encN S) = some S := by
  obtain ⟨n, last, l, c⟩ := S
  have h1 : (l.map Pkt.cv).filterMap decP = l := by
    rw [List.filterMap_map]
    exact List.filterMap_some
  have h2 : (c.map cutA).filterMap decC = c := by
    rw [List.filterMap_map]
    exact List.filterMap_some
  simp only [encN, pksA, decN, h1, h2]
def netObjs0 : Objs0 where
  at_ A H p w := ∃ S m pk, A = encN S ∧ NetAt w p m pk S ∧ ∀ b, H b ↔ NetF p m pk b
  keep := fun {A H p w w'} h hb hs => by
    obtain ⟨S, m, pk, hA, h, hH⟩ := h
    have hk : Keep (fun b => ¬ H b) w { w' with os := w.os, tape := w.tape, output := w.output } := ⟨rfl, rfl, rfl, hs, fun k _ hn => hb k (Classical.not_not.1 hn)⟩
    have := h.keep hk fun b hf hn => hn ((hH b).2 hf)
    exact ⟨S, m, pk, hA, this, hH⟩
  main := fun {A H p w} h => by
    obtain ⟨S, m, pk, hA, h, hH⟩ := h
    exact (hH p).2 (.inl rfl)
  lt := fun {A H p w b} h hb => by
    obtain ⟨S, m, pk, hA, h, hH⟩ := h
    exact h.lt ((hH b).1 hb)
def netObjs : Objs := netObjs0.of
theorem net_at {S : Net} {H : Nat → Prop} {p m : Nat} {pk : Value} {w : World} (h : NetAt w p m pk S) (hH : ∀ b, H b ↔ NetF p m pk b) : netObjs.at_ (encN S) H p w := (Objs0.of_at (O := netObjs0) rfl).2 ⟨S, m, pk, rfl, h, hH⟩
theorem net_at_inv {A : AV} {S : Net} {H : Nat → Prop} {p : Nat} {w : World} (h : netObjs.at_ A H p w) (hd : decN A = some S) : ∃ S m pk, A = encN S ∧ NetAt w p m pk S ∧ ∀ b, H b ↔ NetF p m pk b := by
  have hm : mapOf A = none := by
    unfold decN at hd
    split at hd
    · rfl
    · cases hd
  exact (Objs0.of_at (O := netObjs0) hm).1 h
def resA (r : Res) : AV := .agg [.int .i64 r.id, .int .i64 r.p.id, .int .i64 r.p.src, .int .i64 r.p.dst, .str r.p.data, .int .i64 r.n, .int .i64 r.e]
def opA (o : Op) : AV := .agg [.int .u8 o.kind, .int .i64 o.a, .int .i64 o.b, .int .i64 o.id, .str o.data, .bool o.cut]
def netExt : CallT := fun f args S0 =>
  if f = 11 then match args, S0 with
    | [], none => some (.bool true, none)
    | _, _ => none
  else if f = 17 then match args, S0 with
    | [.int .u8 k], none => if 0 ≤ k ∧ k ≤ 255 then some (.tup [.ptr 0 0 0, .agg [.int .i64 (newSt (1 + k % 5)).n, .int .i64 (newSt (1 + k % 5)).next, .sl true [], .sl true []], .bool true], some (encN (newNet (1 + k % 5)))) else none
    | _, _ => none
  else if f = 19 then match args, S0.bind decN with
    | [.ptr 0 0 0, .agg [.int .u8 k, .int .i64 a, .int .i64 b, .int .i64 id, .str d, .bool c]], some S =>
      if S.l.length ≤ 100 ∧ 0 ≤ S.last ∧ S.last ≤ 1000000 ∧ 0 ≤ k ∧ k ≤ 255 then some (resA (S.exec ⟨k, a, b, id, d, c⟩).2, some (encN (S.exec ⟨k, a, b, id, d, c⟩).1)) else none
    | _, _ => none
  else if f = 14 then match args, S0.bind decN with
    | [.ptr 0 0 0], some S => if S.l.length ≤ 100 then some (pksA S.l, some (encN S)) else none
    | _, _ => none
  else if f = 15 then match args, S0.bind decN with
    | [.ptr 0 0 0], some S => if S.l.length ≤ 100 then some (pksA S.ready, some (encN S)) else none
    | _, _ => none
  else if f = 21 then match args, S0.bind decN with
    | [.ptr 0 0 0, .int .i64 a, .int .i64 b, .bool c], some S => some (.int .i64 (S.setCut a b c).2, some (encN (S.setCut a b c).1))
    | _, _ => none
  else none
section
variable {av : Av} {w w' : World}
theorem cv_rep (p : Pkt) : RepL av w p.cv p.cells := by
  exact ⟨_, _, rfl, rfl, rfl, _, _, rfl, rfl, rfl, _, _, rfl, rfl, rfl, _, _, rfl, rfl, rfl, rfl⟩
theorem pc_rep : ∀ (l : List Pkt), RepL av w (l.map Pkt.cv).flatten (pc l)
  | [] => by simp [RepL, pc]
  | p :: l => by
    rw [pc_cons, List.map_cons, List.flatten_cons]
    exact RepL_append (cv_rep p) (pc_rep l)
theorem pks_rep {v : Value} {l : List Pkt} (h : POwn w v l) (hav : ∀ b o, v.ownBlock = some b → ¬ av b o) : Rep av w (pksA l) v := by
  have hl := h.1
  have huni : ∀ x ∈ l.map Pkt.cv, ∀ y ∈ l.map Pkt.cv, x.length = y.length := fun x hx y hy => by
    obtain ⟨p, _, rfl⟩ := List.mem_map.1 hx
    obtain ⟨q, _, rfl⟩ := List.mem_map.1 hy
    rfl
  simp only [pksA, Rep, List.length_map]
  rcases h.2 with ⟨rfl, h0⟩ | ⟨g, cap, cur, rfl, hb, hg, hnc, _⟩
  · refine ⟨none, 0, by rw [h0], by omega, huni, (fun h => by cases h), fun _ => ⟨fun _ => rfl, fun h => by omega⟩⟩
  · refine ⟨_, cap, rfl, hnc, huni, (fun h => by cases h), fun _ => ⟨fun h => (by cases h), fun _ => ⟨g, 0, rfl, ?_⟩⟩⟩
    refine Rows_flat.2 (Cells_mk (pc_rep l) fun j u hu => ⟨?_, hav g _ rfl⟩)
    have := h.cells (g := g) rfl j u hu
    rw [Addr.add_lit] at this
    exact this
theorem res_rep (r : Res) : Rep av w (resA r) (resV r) := by
  exact ⟨_, rfl, _, _, rfl, rfl, rfl, _, _, rfl, rfl, rfl, _, _, rfl, rfl, rfl, _, _, rfl, rfl, rfl, _, _, rfl, rfl, rfl, _, _, rfl, rfl, rfl, _, _, rfl, rfl, rfl, rfl⟩
/-- how a method over the object ends -/
theorem obj_post {H : Nat → Prop} {p : Nat} {S' : Net} {v : Value} {e : Ending} (h : MO (fun b => H b ∨ w.heap.size ≤ b) p w S' v e w') :
    e = .returned v ∧ ∃ H', netObjs.at_ (encN S') H' p w' ∧ (∀ b, H' b → H b ∨ w.heap.size ≤ b) ∧ Keep H w w' := by
  obtain ⟨he, ⟨m, pk, hN, hG⟩, hk⟩ := h
  exact ⟨he, NetF p m pk, net_at hN fun b => Iff.rfl, hG, hk.mono fun i hi h => h.resolve_right (by omega)⟩
theorem obj_pre {H : Nat → Prop} {p : Nat} {A : AV} {S : Net} (h : netObjs.at_ A H p w) (hd : decN A = some S) : A = encN S ∧ NetO (fun b => H b ∨ w.heap.size ≤ b) p S w ∧ Fresh (fun b => H b ∨ w.heap.size ≤ b) w := by
  obtain ⟨S1, m, pk, rfl, hN, hH⟩ := net_at_inv h hd
  rw [decN_enc] at hd
  injection hd with hd
  subst hd
  exact ⟨rfl, ⟨m, pk, hN, fun b hb => .inl ((hH b).2 hb)⟩, fun b hb => .inr hb⟩
end
end Go.Proofs.Ytinpinjjdkilpaa
/- The contracts of the network's methods, for the machine. -/
namespace Go.Proofs.Ytinpinjjdkilpaa
open Go Go.RowKit
theorem ok_awake : CallOk Try.prog netObjs 11 [] none (.bool true, none) := by
  refine ⟨fun xs w => by kernel_rfl, fun av w vs hav hargs => ?_⟩
  simp only [RepA] at hargs
  subst hargs
  refine (awake_any w).mono ?_
  rintro e w' ⟨rfl, hb⟩
  exact ⟨_, rfl, rfl, hb⟩
theorem ok_begin (k : Int) (h0 : 0 ≤ k) (h1 : k ≤ 255) : CallOk Try.prog netObjs 17 [.int .u8 k] none (.tup [.ptr 0 0 0, .agg [.int .i64 (newSt (1 + k % 5)).n, .int .i64 (newSt (1 + k % 5)).next, .sl true [], .sl true []], .bool true], some (encN (newNet (1 + k % 5)))) := by
  refine ⟨fun xs w => by kernel_rfl, fun av w vs hav hargs => ?_⟩
  simp only [RepA] at hargs
  obtain ⟨u, us, rfl, hu, rfl⟩ := hargs
  have hu : u = .int .u8 k := hu
  subst hu
  refine (begin_any (fun b => w.heap.size ≤ b) k w (fun b hb => hb) h0 h1).mono ?_
  rintro e w' ⟨x, rfl, ⟨m, pk, hN, hG⟩, hb, hx⟩
  refine ⟨_, x, NetF x m pk, rfl, ?_, net_at hN fun b => Iff.rfl, hG, hb⟩
  refine ⟨_, rfl, _, _, rfl, rfl, _, _, rfl, ?_, _, _, rfl, rfl, rfl⟩
  have nil : ∀ {av : Av} {w : World}, Rep av w (.sl true []) (.slice none 0 0) := fun {av w} => ⟨none, 0, rfl, Nat.le_refl _, (fun _ h => by cases h), fun _ => ⟨rfl, rfl, rfl⟩, fun h => by cases h⟩
  exact ⟨_, rfl, _, _, rfl, rfl, rfl, _, _, rfl, rfl, rfl, _, _, rfl, nil, rfl, _, _, rfl, nil, rfl, rfl⟩
section
variable {A : AV} {S : Net}
/-- the argument that is the object -/
theorem obj_arg {p : Nat} {av avl : Av} {w : World} {u : Value} (h : RepS (Ix.one p) av avl w (.ptr 0 0 0) u) : u = .pointer (some ⟨p, 0, none⟩) := by
  obtain ⟨b, hb, hu⟩ := h
  have : (some p : Option Nat) = some b := hb
  injection this with this
  rw [hu, this]
theorem ok_do (hd : decN A = some S) (o : Op) (h1 : S.l.length ≤ 100) (h2 : 0 ≤ S.last) (h3 : S.last ≤ 1000000) (h4 : 0 ≤ o.kind ∧ o.kind ≤ 255) : CallOk Try.prog netObjs 19 [.ptr 0 0 0, opA o] (some A) (resA (S.exec o).2, some (encN (S.exec o).1)) := by
  refine ⟨fun xs w => by kernel_rfl, fun av w vs p H hav hH hat hargs => ?_⟩
  simp only [RepA] at hargs
  obtain ⟨u1, us, rfl, hu1, u2, us2, rfl, hu2, rfl⟩ := hargs
  have e1 := obj_arg hu1
  subst e1
  obtain ⟨xs, rfl, hc⟩ := hu2
  simp only [RepCL] at hc
  obtain ⟨a1, r1, e1, rfl, _, a2, r2, rfl, rfl, _, a3, r3, rfl, rfl, _, a4, r4, rfl, rfl, _, a5, r5, rfl, rfl, _, a6, r6, rfl, rfl, _, rfl⟩ := hc
  have e2 : xs = #[.int .u8 o.kind, .int .i64 o.a, .int .i64 o.b, .int .i64 o.id, .string o.data, .bool o.cut] := by rw [← Array.toArray_toList (xs := xs), e1]
  subst e2
  obtain ⟨rfl, hN, hF⟩ := obj_pre (w := w) hat hd
  refine (do_any _ p S o w hN hF h1 h2 h3 h4).mono fun e w' h => ?_
  obtain ⟨rfl, H', hat', hH', hk⟩ := obj_post h
  exact ⟨_, H', rfl, res_rep _, hat', hH', hk⟩
theorem fresh_ok {H : Nat → Prop} {p : Nat} {av : Av} {w w' : World} {l : List Pkt} {e : Ending} (hat : netObjs.at_ A H p w) (hav : ∀ b o, av b o → b < w.heap.size) (h : FreshP w l e w') :
    ∃ v H', e = .returned v ∧ Rep (fun b o => av b o ∨ H' b) w' (pksA l) v ∧ netObjs.at_ A H' p w' ∧ (∀ b, H' b → H b ∨ w.heap.size ≤ b) ∧ Keep H w w' := by
  obtain ⟨v, rfl, hown, hb, hfr⟩ := h
  refine ⟨v, H, rfl, pks_rep hown fun b o hv hx => ?_, netObjs.keep hat (fun b hH => hb.block b (netObjs.lt hat hH)) hb.size, fun b h => .inl h, Keep.of_below hb H⟩
  have := hfr b hv
  rcases hx with hx | hx
  · have := hav b o hx; omega
  · have := netObjs.lt hat hx; omega
theorem ok_pending (hd : decN A = some S) (h1 : S.l.length ≤ 100) : CallOk Try.prog netObjs 14 [.ptr 0 0 0] (some A) (pksA S.l, some (encN S)) := by
  refine ⟨fun xs w => by kernel_rfl, fun av w vs p H hav hH hat hargs => ?_⟩
  simp only [RepA] at hargs
  obtain ⟨u1, us, rfl, hu1, rfl⟩ := hargs
  have e1 := obj_arg hu1
  subst e1
  obtain ⟨rfl, hN, hF⟩ := obj_pre (w := w) hat hd
  exact (pending_o hN h1).mono fun e w' h => fresh_ok hat hav h
theorem ok_ready (hd : decN A = some S) (h1 : S.l.length ≤ 100) : CallOk Try.prog netObjs 15 [.ptr 0 0 0] (some A) (pksA S.ready, some (encN S)) := by
  refine ⟨fun xs w => by kernel_rfl, fun av w vs p H hav hH hat hargs => ?_⟩
  simp only [RepA] at hargs
  obtain ⟨u1, us, rfl, hu1, rfl⟩ := hargs
  have e1 := obj_arg hu1
  subst e1
  obtain ⟨rfl, hN, hF⟩ := obj_pre (w := w) hat hd
  exact (ready_o hN h1).mono fun e w' h => fresh_ok hat hav h
theorem ok_cut (hd : decN A = some S) (a b : Int) (c : Bool) : CallOk Try.prog netObjs 21 [.ptr 0 0 0, .int .i64 a, .int .i64 b, .bool c] (some A) (.int .i64 (S.setCut a b c).2, some (encN (S.setCut a b c).1)) := by
  refine ⟨fun xs w => by kernel_rfl, fun av w vs p H hav hH hat hargs => ?_⟩
  simp only [RepA] at hargs
  obtain ⟨u1, us, rfl, hu1, u2, us2, rfl, hu2, u3, us3, rfl, hu3, u4, us4, rfl, hu4, rfl⟩ := hargs
  have e1 := obj_arg hu1
  subst e1
  have e2 : u2 = .int .i64 a := hu2
  have e3 : u3 = .int .i64 b := hu3
  have e4 : u4 = .bool c := hu4
  subst e2
  subst e3
  subst e4
  obtain ⟨rfl, hN, hF⟩ := obj_pre (w := w) hat hd
  refine (cut_o a b c hN hF _ rfl).mono fun e w' h => ?_
  obtain ⟨rfl, H', hat', hH', hk⟩ := obj_post h
  exact ⟨_, H', rfl, rfl, hat', hH', hk⟩
end
theorem dec_bind {S0 : Option AV} {S : Net} (h : S0.bind decN = some S) : ∃ A, S0 = some A ∧ decN A = some S := Option.bind_eq_some_iff.1 h
theorem netExt_ok (f : Nat) (args : List AV) (S0 : Option AV) (r : RV) (h : netExt f args S0 = some r) : CallOk Try.prog netObjs f args S0 r := by
  unfold netExt at h
  split at h
  · rename_i hf
    subst hf
    split at h
    · injection h with h; subst h; exact ok_awake
    · cases h
  · split at h
    · rename_i hf
      subst hf
      split at h
      · split at h
        · rename_i hk
          injection h with h; subst h; exact ok_begin _ hk.1 hk.2
        · cases h
      · cases h
    · split at h
      · rename_i hf
        subst hf
        split at h
        · rename_i k a b id d c S hS
          obtain ⟨A, rfl, hd⟩ := dec_bind hS
          split at h
          · rename_i hk
            injection h with h; subst h; exact ok_do hd ⟨k, a, b, id, d, c⟩ hk.1 hk.2.1 hk.2.2.1 hk.2.2.2
          · cases h
        · cases h
      · split at h
        · rename_i hf
          subst hf
          split at h
          · rename_i S _ hS
            obtain ⟨A, rfl, hd⟩ := dec_bind hS
            split at h
            · rename_i hk
              injection h with h; subst h; exact ok_pending hd hk
            · cases h
          · cases h
        · split at h
          · rename_i hf
            subst hf
            split at h
            · rename_i S _ hS
              obtain ⟨A, rfl, hd⟩ := dec_bind hS
              split at h
              · rename_i hk
                injection h with h; subst h; exact ok_ready hd hk
              · cases h
            · cases h
          · split at h
            · rename_i hf
              subst hf
              split at h
              · rename_i S _ hS
                obtain ⟨A, rfl, hd⟩ := dec_bind hS
                injection h with h; subst h; exact ok_cut hd _ _ _
              · cases h
            · cases h
end Go.Proofs.Ytinpinjjdkilpaa
/- few and the law of the numbers, on the machine. -/
namespace Go.Proofs.Ytinpinjjdkilpaa
open Go Go.RowKit
def c16_1 : C := .seq (.reg [⟨(.some 11), (.bin .lss .false (.t 10) (.t 9)), .none⟩]) (.seq (.cond (.t 11) .skip (.exit 0)) (.seq (.block 1 (.seq (.reg [⟨(.some 12), (.iaddr 6 (.t 8) (.t 10)), .none⟩, ⟨(.some 13), (.load .any .true 6 (.t 12)), .none⟩, ⟨(.some 7), (.alloc [(.int .u8 0), (.int .i64 0), (.int .i64 0), (.int .i64 0), (.str (ByteArray.mk #[])), (.bool .false)]), .none⟩, ⟨.none, (.store .any .true 6 (.t 7) (.t 13)), .none⟩]) (.reg [⟨(.some 14), (.mv (.t 5)), .none⟩, ⟨(.some 15), (.faddr 4 (.t 7)), .none⟩, ⟨(.some 16), (.load .any .false 1 (.t 15)), .none⟩, ⟨(.some 17), (.len .true (.t 16)), .none⟩, ⟨(.some 18), (.bin .add .false (.t 14) (.t 17)), .none⟩, ⟨(.some 5), (.mv (.t 18)), .none⟩]))) (.reg [⟨(.some 19), (.bin .add .false (.t 10) (.c (.int .i64 1))), .none⟩, ⟨(.some 10), (.mv (.t 19)), .none⟩])))
def c16 : FnC := ⟨(.seq (.reg [⟨(.some 4), (.mv (.c (.bool .false))), .none⟩]) (.seq (.reg [⟨(.some 5), (.mv (.c (.int .i64 0))), .none⟩]) (.seq (.seq (.reg [⟨(.some 8), (.mv (.t 0)), .none⟩, ⟨(.some 9), (.len .false (.t 8)), .none⟩, ⟨(.some 10), (.mv (.c (.int .i64 0))), .none⟩]) (.block 0 (.loop c16_1))) (.seq (.reg [⟨(.some 20), (.mv (.t 0)), .none⟩, ⟨(.some 21), (.len .false (.t 20)), .none⟩, ⟨(.some 22), (.mv (.t 1)), .none⟩, ⟨(.some 23), (.bin .leq .false (.t 21) (.t 22)), .none⟩, ⟨(.some 24), (.mv (.t 23)), .none⟩, ⟨(.some 25), (.mv (.t 5)), (.some (24, .true))⟩, ⟨(.some 26), (.bin .leq .false (.t 25) (.c (.int .i64 300))), (.some (24, .true))⟩, ⟨(.some 27), (.pick (.t 24) (.t 26) (.c (.bool .false))), .none⟩, ⟨(.some 4), (.mv (.t 27)), .none⟩]) .ret)))), [(.tmp 4)], 2, []⟩
def opC (o : Op) : List AV := [.int .u8 o.kind, .int .i64 o.a, .int .i64 o.b, .int .i64 o.id, .str o.data, .bool o.cut]
def opsA (nl : Bool) (l : List Op) : AV := .sl nl (l.map opC)
/-- the letters of all data, as the code adds them -/
def fewS (n : Int) : List Op → Int
  | [] => n
  | o :: r => fewS (IntKind.i64.wrap (n + o.data.size)) r
def fewB (l : List Op) (most : Int) : Bool := decide ((l.length : Int) ≤ most) && decide (fewS 0 l ≤ 300)
set_option maxRecDepth 10000
set_option linter.unusedSimpArgs false
theorem few_lp {T : Nat → Option FnC} {ext : CallT} (nl : Bool) (L : List Op) (r : RV) (k : Ex → MSt → Option RV) (v0 v1 : Slot) (hlen : L.length ≤ 9223372036854775807)
    (hk : ∀ s : MSt, (s.env 0) = v0 → (s.env 1) = v1 → (s.env 5).v = .int .i64 (fewS 0 L) → k (.exit 0) s = some r) :
    ∀ (n i : Nat) (m : Int), i + n = L.length → fewS m (L.drop i) = fewS 0 L → ∀ s : MSt, (s.env 10).v = .int .i64 i → (s.env 9).v = .int .i64 L.length → (s.env 8).v = opsA nl L → (s.env 0) = v0 → (s.env 1) = v1 → (s.env 5).v = .int .i64 m → evL T ext c16_1 s k = some r := by
  intro n
  induction n with
  | zero =>
    intro i m hi hm s e10 e9 e8 e0 e1 e5
    obtain rfl : i = L.length := by omega
    refine evL_intro ?_
    simp [c16_1, frz_free, frz_map, AV.frz, AV.frz0, C.run, runOps, OpC.step, OpC.eff, K.run, MSt.put, MSt.setObj, Opd.get, MSt.init, MSt.setRow, setRowC, AV.leaf, AV.whole, AV.cells, binC, mmC, eqC, natOf, loadC, loadI, Cl.okPtr, Cl.okMem, fillC, fin, finV, objAt, unname, resC, AV.free, AV.free0, AV.back, AV.backN, AV.isObj, AV.named, pack, lendAll, lend, objsOf, again, endC, AV.elems, MSt.stripA, MSt.strip, Slot.strip_v, Slot.strip_mk, An.strip, Opd.an, zeroAn, elsOk_nil, elsOk_cons, elsOk_append, elsOk_map, elsOk_take, elsOk_drop, e10, e9]
    refine hk _ (by simpa using e0) (by simpa using e1) ?_
    simp only [List.drop_length, fewS] at hm
    simp [e5, hm]
  | succ n ih =>
    intro i m hi hm s e10 e9 e8 e0 e1 e5
    have hlt : i < L.length := by omega
    have hw : IntKind.i64.wrap ((i : Int) + 1) = ((i + 1 : Nat) : Int) := by rw [IntWalk.i64_in _ (by omega)]; rfl
    rw [List.drop_eq_getElem_cons hlt] at hm
    refine evL_intro ?_
    simp [c16_1, frz_free, frz_map, AV.frz, AV.frz0, C.run, runOps, OpC.step, OpC.eff, K.run, MSt.put, MSt.setObj, Opd.get, MSt.init, MSt.setRow, setRowC, AV.leaf, AV.whole, AV.cells, binC, mmC, eqC, natOf, loadC, loadI, Cl.okPtr, Cl.okMem, fillC, fin, finV, objAt, unname, resC, AV.free, AV.free0, AV.back, AV.backN, AV.isObj, AV.named, pack, lendAll, lend, objsOf, again, endC, AV.elems, MSt.stripA, MSt.strip, Slot.strip_v, Slot.strip_mk, An.strip, Opd.an, zeroAn, elsOk_nil, elsOk_cons, elsOk_append, elsOk_map, elsOk_take, elsOk_drop, e10, e9, e8, e5, hlt, opsA, opC, hw]
    refine ih (i + 1) (IntKind.i64.wrap (m + (L[i]).data.size)) (by omega) hm _ ?_ ?_ ?_ ?_ ?_ ?_ <;> simp [e10, e9, e8, e5, e0, e1, hw, opsA, opC]
theorem few_ev {T : Nat → Option FnC} {ext : CallT} (hT : T 16 = some c16) (nl : Bool) (L : List Op) (most : Int) (hlen : L.length ≤ 9223372036854775807) : evC T ext 16 [opsA nl L, .int .i64 most] none = some (.bool (fewB L most), none) := by
  refine evC_intro c16 hT rfl ?_
  simp [c16, frz_free, frz_map, AV.frz, AV.frz0, C.run, runOps, OpC.step, OpC.eff, K.run, MSt.put, MSt.setObj, Opd.get, MSt.init, MSt.setRow, setRowC, AV.leaf, AV.whole, AV.cells, binC, mmC, eqC, natOf, loadC, loadI, Cl.okPtr, Cl.okMem, fillC, fin, finV, objAt, unname, resC, AV.free, AV.free0, AV.back, AV.backN, AV.isObj, AV.named, pack, lendAll, lend, objsOf, again, endC, AV.elems, MSt.stripA, MSt.strip, Slot.strip_v, Slot.strip_mk, An.strip, Opd.an, zeroAn, elsOk_nil, elsOk_cons, elsOk_append, elsOk_map, elsOk_take, elsOk_drop, opsA]
  refine few_lp nl L _ _ ⟨opsA nl L, .no⟩ ⟨.int .i64 most, .no⟩ hlen (fun s h0 h1 h5 => ?_) L.length 0 0 (by simp) rfl _ ?_ ?_ ?_ ?_ ?_ ?_ <;> try (simp [opsA]; done)
  by_cases hl : (L.length : Int) ≤ most <;> simp [frz_free, frz_map, AV.frz, AV.frz0, C.run, runOps, OpC.step, OpC.eff, K.run, MSt.put, MSt.setObj, Opd.get, MSt.init, MSt.setRow, setRowC, AV.leaf, AV.whole, AV.cells, binC, mmC, eqC, natOf, loadC, loadI, Cl.okPtr, Cl.okMem, fillC, fin, finV, objAt, unname, resC, AV.free, AV.free0, AV.back, AV.backN, AV.isObj, AV.named, pack, lendAll, lend, objsOf, again, endC, AV.elems, MSt.stripA, MSt.strip, Slot.strip_v, Slot.strip_mk, An.strip, Opd.an, zeroAn, elsOk_nil, elsOk_cons, elsOk_append, elsOk_map, elsOk_take, elsOk_drop, h0, h1, h5, opsA, fewB, hl]
end Go.Proofs.Ytinpinjjdkilpaa
/- The document's functions, on the machine. -/
namespace Go.Proofs.Ytinpinjjdkilpaa
open Go Go.RowKit
def c45 : FnC := ⟨(.seq (.reg [⟨(.some 4), (.alloc [(.int .i64 0), (.int .i64 0)]), .none⟩]) (.seq (.seq (.reg [⟨(.some 5), (.mv (.t 0)), .none⟩, ⟨(.some 6), (.mv (.t 1)), .none⟩, ⟨(.some 7), (.bin .gtr .false (.t 5) (.t 6)), .none⟩]) (.cond (.t 7) (.seq (.reg [⟨(.some 8), (.mv (.t 1)), .none⟩, ⟨(.some 9), (.mv (.t 0)), .none⟩, ⟨(.some 10), (.build [(.int .i64 0), (.int .i64 0)] [(0, (1, (.t 8))), (1, (1, (.t 9)))]), .none⟩, ⟨.none, (.store .any .true 2 (.t 4) (.t 10)), .none⟩]) .ret) .skip)) (.seq (.reg [⟨(.some 11), (.mv (.t 0)), .none⟩, ⟨(.some 12), (.mv (.t 1)), .none⟩, ⟨(.some 13), (.build [(.int .i64 0), (.int .i64 0)] [(0, (1, (.t 11))), (1, (1, (.t 12)))]), .none⟩, ⟨.none, (.store .any .true 2 (.t 4) (.t 13)), .none⟩]) .ret))), [(.cell 4 .true 2)], 2, []⟩
def c33 : FnC := ⟨(.seq (.reg [⟨(.some 2), (.box 4 (.t 0)), .none⟩, ⟨(.some 4), (.mv (.c (.bool .false))), .none⟩]) (.seq (.reg [⟨(.some 5), (.mv (.t 1)), .none⟩, ⟨(.some 6), (.bin .geq .false (.t 5) (.c (.int .i64 0))), .none⟩, ⟨(.some 7), (.mv (.t 6)), .none⟩, ⟨(.some 8), (.mv (.t 1)), (.some (7, .true))⟩, ⟨(.some 9), (.faddr 0 (.t 2)), (.some (7, .true))⟩, ⟨(.some 10), (.load .any .false 1 (.t 9)), (.some (7, .true))⟩, ⟨(.some 11), (.bin .lss .false (.t 8) (.t 10)), (.some (7, .true))⟩, ⟨(.some 12), (.pick (.t 7) (.t 11) (.c (.bool .false))), .none⟩, ⟨(.some 4), (.mv (.t 12)), .none⟩]) .ret)), [(.tmp 4)], 2, []⟩
def c32_1 : C := .seq (.seq (.reg [⟨(.some 6), (.mv (.t 5)), .none⟩, ⟨(.some 7), (.faddr 2 (.t 2)), .none⟩, ⟨(.some 8), (.load .any .false 1 (.t 7)), .none⟩, ⟨(.some 9), (.len .false (.t 8)), .none⟩, ⟨(.some 10), (.bin .lss .false (.t 6) (.t 9)), .none⟩]) (.cond (.t 10) .skip (.exit 0))) (.seq (.block 1 (.seq (.reg [⟨(.some 13), (.faddr 2 (.t 2)), .none⟩, ⟨(.some 14), (.load .any .false 1 (.t 13)), .none⟩, ⟨(.some 15), (.mv (.t 5)), .none⟩, ⟨(.some 16), (.iaddr 4 (.t 14) (.t 15)), .none⟩, ⟨(.some 17), (.faddr 0 (.t 16)), .none⟩, ⟨(.some 18), (.load .any .false 1 (.t 17)), .none⟩, ⟨(.some 19), (.mv (.t 1)), .none⟩, ⟨(.some 20), (.bin .eql .false (.t 18) (.t 19)), .none⟩]) (.cond (.t 20) (.seq (.reg [⟨(.some 21), (.mv (.t 5)), .none⟩, ⟨(.some 4), (.mv (.t 21)), .none⟩]) .ret) .skip))) (.reg [⟨(.some 11), (.mv (.t 5)), .none⟩, ⟨(.some 12), (.bin .add .false (.t 11) (.c (.int .i64 1))), .none⟩, ⟨(.some 5), (.mv (.t 12)), .none⟩]))
def c32 : FnC := ⟨(.seq (.reg [⟨(.some 2), (.box 4 (.t 0)), .none⟩, ⟨(.some 4), (.mv (.c (.int .i64 0))), .none⟩]) (.seq (.seq (.reg [⟨(.some 5), (.mv (.c (.int .i64 0))), .none⟩]) (.block 0 (.loop c32_1))) (.seq (.reg [⟨(.some 4), (.mv (.c (.int .i64 (-1)))), .none⟩]) .ret))), [(.tmp 4)], 2, []⟩
def c36_1 : C := .seq (.seq (.reg [⟨(.some 8), (.mv (.t 7)), .none⟩, ⟨(.some 9), (.faddr 3 (.t 3)), .none⟩, ⟨(.some 10), (.load .any .false 1 (.t 9)), .none⟩, ⟨(.some 11), (.len .false (.t 10)), .none⟩, ⟨(.some 12), (.bin .lss .false (.t 8) (.t 11)), .none⟩]) (.cond (.t 12) .skip (.exit 0))) (.seq (.block 1 (.seq (.reg [⟨(.some 15), (.faddr 3 (.t 3)), .none⟩, ⟨(.some 16), (.load .any .false 1 (.t 15)), .none⟩, ⟨(.some 17), (.mv (.t 7)), .none⟩, ⟨(.some 18), (.iaddr 2 (.t 16) (.t 17)), .none⟩, ⟨(.some 19), (.load .any .true 2 (.t 18)), .none⟩, ⟨(.some 20), (.mv (.t 1)), .none⟩, ⟨(.some 21), (.mv (.t 2)), .none⟩, ⟨(.some 22), (.call .any 45 [(.t 20), (.t 21)]), .none⟩, ⟨(.some 23), (.eqa .false [0, 0] (.t 19) (.t 22)), .none⟩]) (.cond (.t 23) (.seq (.reg [⟨(.some 6), (.mv (.c (.bool .true))), .none⟩]) .ret) .skip))) (.reg [⟨(.some 13), (.mv (.t 7)), .none⟩, ⟨(.some 14), (.bin .add .false (.t 13) (.c (.int .i64 1))), .none⟩, ⟨(.some 7), (.mv (.t 14)), .none⟩]))
def c36 : FnC := ⟨(.seq (.reg [⟨(.some 3), (.box 4 (.t 0)), .none⟩, ⟨(.some 6), (.mv (.c (.bool .false))), .none⟩]) (.seq (.seq (.reg [⟨(.some 7), (.mv (.c (.int .i64 0))), .none⟩]) (.block 0 (.loop c36_1))) (.seq (.reg [⟨(.some 6), (.mv (.c (.bool .false))), .none⟩]) .ret))), [(.tmp 6)], 3, []⟩
def c37 : FnC := ⟨(.seq (.reg [⟨(.some 2), (.box 4 (.t 0)), .none⟩, ⟨(.some 4), (.alloc [(.int .i64 0), (.int .i64 0), (.sl .true []), (.sl .true [])]), .none⟩]) (.seq (.reg [⟨(.some 5), (.bsl [(.int .i64 0), (.int .i64 0), (.int .i64 0), (.str (ByteArray.mk #[]))] 0 []), .none⟩, ⟨(.some 6), (.faddr 2 (.t 2)), .none⟩, ⟨(.some 7), (.load (.root 2) .false 1 (.t 6)), .none⟩, ⟨(.some 8), (.mv (.t 1)), .none⟩, ⟨(.some 9), (.slc .false 4 (.t 7) .none (.some (.t 8)) .none), .none⟩, ⟨(.some 10), (.app .imm 42 4 40 (.t 5) (.t 9)), .none⟩, ⟨(.some 11), (.faddr 2 (.t 2)), .none⟩, ⟨(.some 12), (.load (.root 2) .false 1 (.t 11)), .none⟩, ⟨(.some 13), (.mv (.t 1)), .none⟩, ⟨(.some 14), (.bin .add .false (.t 13) (.c (.int .i64 1))), .none⟩, ⟨(.some 15), (.slc .false 4 (.t 12) (.some (.t 14)) .none .none), .none⟩, ⟨(.some 16), (.app .imm 42 4 40 (.t 10) (.t 15)), .none⟩, ⟨(.some 17), (.faddr 2 (.t 2)), .none⟩, ⟨.none, (.store (.root 2) .false 1 (.t 17) (.t 16)), .none⟩]) (.seq (.reg [⟨(.some 18), (.load .any .true 4 (.t 2)), .none⟩, ⟨.none, (.store .any .true 4 (.t 4) (.t 18)), .none⟩]) .ret))), [(.cell 4 .true 4)], 2, []⟩
def c34 : FnC := ⟨(.seq (.reg [⟨(.some 2), (.box 4 (.t 0)), .none⟩, ⟨(.some 3), (.box 4 (.t 1)), .none⟩, ⟨(.some 4), (.alloc [(.int .i64 0), (.int .i64 0), (.sl .true []), (.sl .true [])]), .none⟩, ⟨(.some 5), (.alloc [(.int .i64 0), (.int .i64 0), (.int .i64 0), (.int .i64 0), (.str (ByteArray.mk #[])), (.int .i64 0), (.int .i64 0)]), .none⟩]) (.seq (.seq (.reg [⟨(.some 6), (.faddr 2 (.t 2)), .none⟩, ⟨(.some 7), (.load .any .false 1 (.t 6)), .none⟩, ⟨(.some 8), (.len .false (.t 7)), .none⟩, ⟨(.some 9), (.bin .geq .false (.t 8) (.c (.int .i64 64))), .none⟩]) (.cond (.t 9) (.seq (.reg [⟨(.some 10), (.load .any .true 4 (.t 2)), .none⟩, ⟨(.some 11), (.build [(.int .i64 0), (.int .i64 0), (.int .i64 0), (.int .i64 0), (.str (ByteArray.mk #[])), (.int .i64 0), (.int .i64 0)] [(6, (1, (.c (.int .i64 3))))]), .none⟩, ⟨.none, (.store .any .true 4 (.t 4) (.t 10)), .none⟩, ⟨.none, (.store .any .true 7 (.t 5) (.t 11)), .none⟩]) .ret) .skip)) (.seq (.reg [⟨(.some 12), (.faddr 1 (.t 2)), .none⟩, ⟨(.some 13), (.load .any .false 1 (.t 12)), .none⟩, ⟨(.some 14), (.faddr 0 (.t 3)), .none⟩, ⟨.none, (.store .any .false 1 (.t 14) (.t 13)), .none⟩]) (.seq (.reg [⟨(.some 15), (.bsl [(.int .i64 0), (.int .i64 0), (.int .i64 0), (.str (ByteArray.mk #[]))] 0 []), .none⟩, ⟨(.some 16), (.faddr 2 (.t 2)), .none⟩, ⟨(.some 17), (.load (.root 2) .false 1 (.t 16)), .none⟩, ⟨(.some 18), (.app .imm 42 4 40 (.t 15) (.t 17)), .none⟩, ⟨(.some 19), (.load (.root 3) .true 4 (.t 3)), .none⟩, ⟨(.some 20), (.bsl [(.int .i64 0), (.int .i64 0), (.int .i64 0), (.str (ByteArray.mk #[]))] 1 [(0, (.t 19))]), .none⟩, ⟨(.some 21), (.app .imm 42 4 40 (.t 18) (.t 20)), .none⟩, ⟨(.some 22), (.faddr 2 (.t 2)), .none⟩, ⟨.none, (.store (.root 2) .false 1 (.t 22) (.t 21)), .none⟩]) (.seq (.reg [⟨(.some 23), (.faddr 1 (.t 2)), .none⟩, ⟨(.some 24), (.load .any .false 1 (.t 23)), .none⟩, ⟨(.some 25), (.bin .add .false (.t 24) (.c (.int .i64 1))), .none⟩, ⟨(.some 26), (.faddr 1 (.t 2)), .none⟩, ⟨.none, (.store .any .false 1 (.t 26) (.t 25)), .none⟩]) (.seq (.reg [⟨(.some 27), (.load (.root 2) .true 4 (.t 2)), .none⟩, ⟨(.some 28), (.faddr 0 (.t 3)), .none⟩, ⟨(.some 29), (.load (.root 3) .false 1 (.t 28)), .none⟩, ⟨(.some 30), (.build [(.int .i64 0), (.int .i64 0), (.int .i64 0), (.int .i64 0), (.str (ByteArray.mk #[])), (.int .i64 0), (.int .i64 0)] [(0, (1, (.t 29)))]), .none⟩, ⟨.none, (.store (.root 4) .true 4 (.t 4) (.t 27)), .none⟩, ⟨.none, (.store (.root 5) .true 7 (.t 5) (.t 30)), .none⟩]) .ret)))))), [(.cell 4 .true 4), (.cell 5 .true 7)], 2, []⟩
set_option maxRecDepth 10000
set_option maxHeartbeats 1000000
set_option linter.unusedSimpArgs false
def cutP (c : Int × Int) : List AV := [.int .i64 c.1, .int .i64 c.2]
def stC (b1 b2 : Bool) (S : St) : List AV := [.int .i64 S.n, .int .i64 S.next, .sl b1 (S.l.map Pkt.cv), .sl b2 (S.cut.map cutP)]
def stA (b1 b2 : Bool) (S : St) : AV := .agg (stC b1 b2 S)
def findF (id : Int) : Nat → List Pkt → Int
  | _, [] => -1
  | i, p :: r => if p.id = id then i else findF id (i + 1) r
section
variable {T : Nat → Option FnC} {ext : CallT}
theorem pair_ev (hT : T 45 = some c45) (a b : Int) : evC T ext 45 [.int .i64 a, .int .i64 b] none = some (.agg (cutP (pairOf a b)), none) := by
  refine evC_intro c45 hT rfl ?_
  unfold pairOf cutP
  by_cases h : a > b <;> simp [c45, e_ob2, frz_free, frz_map, AV.frz, AV.frz0, kill_free, kill_map, AV.kill, AV.kill0, killE_at, killM_at, Slot.kill_v, Slot.kill_a, Slot.kill_mk, m_kill, m_kill0, e_rn, -Option.bind_some, ↓bind_some2, putE_at, setM_at, setO_at, stripE_at, stripM_at, Slot.strip_v, Slot.strip_a, Slot.strip_mk, An.strip, argE_at, noM_at, objE_at, m_init, m_put, m_put0, m_row, m_obj, m_strip, m_stripA, m_stripX, ↓seqK_nrm, ↓seqK_exit, ↓seqK_ret, ↓regK_at, ↓blkK_nrm, ↓blkK_exit, ↓blkK_ret, ↓condC_true, ↓condC_false, ↓guardC_bool, ↓guardC_tup, ↓r_skip, ↓r_seq, ↓r_reg, ↓r_cond, ↓r_block, ↓r_loop, ↓r_exit, ↓r_ret, ↓a_nrm, ↓a_exit, ↓a_ret, ↓o_nil, ↓o_cons, ↓s_plain, ↓s_guard, e_none, e_set, e_newp, e_newr, e_app, e_obj, e_mk, K.run, Opd.get, setRowC, AV.leaf, AV.whole, AV.cells, binC, mmC, eqC, natOf, loadC, loadI, Cl.okPtr, Cl.okMem, fillC, fin, finV, objAt, unname, resC, AV.free, AV.free0, AV.back, AV.backN, AV.isObj, AV.named, pack, lendAll, lend, objsOf, endC, AV.elems, Opd.an, zeroAn, elsOk_nil, elsOk_cons, elsOk_append, elsOk_map, elsOk_take, elsOk_drop, take_map_len, List.range_succ, List.range_zero, List.nil_append, List.cons_append, h]
  · omega
  · omega
theorem node_ev (hT : T 33 = some c33) (b1 b2 : Bool) (S : St) (a : Int) : evC T ext 33 [stA b1 b2 S, .int .i64 a] none = some (.bool (S.node a), none) := by
  refine evC_intro c33 hT rfl ?_
  unfold St.node
  by_cases h : 0 ≤ a <;> simp [c33, e_ob2, frz_free, frz_map, AV.frz, AV.frz0, kill_free, kill_map, AV.kill, AV.kill0, killE_at, killM_at, Slot.kill_v, Slot.kill_a, Slot.kill_mk, m_kill, m_kill0, e_rn, -Option.bind_some, ↓bind_some2, putE_at, setM_at, setO_at, stripE_at, stripM_at, Slot.strip_v, Slot.strip_a, Slot.strip_mk, An.strip, argE_at, noM_at, objE_at, m_init, m_put, m_put0, m_row, m_obj, m_strip, m_stripA, m_stripX, ↓seqK_nrm, ↓seqK_exit, ↓seqK_ret, ↓regK_at, ↓blkK_nrm, ↓blkK_exit, ↓blkK_ret, ↓condC_true, ↓condC_false, ↓guardC_bool, ↓guardC_tup, ↓r_skip, ↓r_seq, ↓r_reg, ↓r_cond, ↓r_block, ↓r_loop, ↓r_exit, ↓r_ret, ↓a_nrm, ↓a_exit, ↓a_ret, ↓o_nil, ↓o_cons, ↓s_plain, ↓s_guard, e_none, e_set, e_newp, e_newr, e_app, e_obj, e_mk, K.run, Opd.get, setRowC, AV.leaf, AV.whole, AV.cells, binC, mmC, eqC, natOf, loadC, loadI, Cl.okPtr, Cl.okMem, fillC, fin, finV, objAt, unname, resC, AV.free, AV.free0, AV.back, AV.backN, AV.isObj, AV.named, pack, lendAll, lend, objsOf, endC, AV.elems, Opd.an, zeroAn, elsOk_nil, elsOk_cons, elsOk_append, elsOk_map, elsOk_take, elsOk_drop, take_map_len, List.range_succ, List.range_zero, List.nil_append, List.cons_append, h, stA, stC]
theorem find_lp (b1 b2 : Bool) (S : St) (id : Int) (hlen : S.l.length ≤ 9223372036854775807) (r : RV) (m : Nat) (k : Ex → MSt → Option RV) (hk : ∀ s, findF id 0 S.l = -1 → k (.exit 0) s = some r) (hr : ∀ s : MSt, (s.env 4).v = .int .i64 (findF id 0 S.l) → k .ret s = some r) :
    ∀ (n i : Nat), i + n = S.l.length → findF id i (S.l.drop i) = findF id 0 S.l → ∀ s : MSt, (s.env 5).v = .int .i64 i → (s.env 1).v = .int .i64 id → (s.env 2).v = .ptr 2 m 0 → s.mem 2 m = some ((stC b1 b2 S).map (⟨·, .no⟩)) → evL T ext c32_1 s k = some r := by
  intro n
  induction n with
  | zero =>
    intro i hi hf s e5 e1 e2 em
    obtain rfl : i = S.l.length := by omega
    refine evL_intro ?_
    simp only [stC, List.map_cons, List.map_nil] at em
    simp [c32_1, e_ob2, frz_free, frz_map, AV.frz, AV.frz0, kill_free, kill_map, AV.kill, AV.kill0, killE_at, killM_at, Slot.kill_v, Slot.kill_a, Slot.kill_mk, m_kill, m_kill0, e_rn, -Option.bind_some, ↓bind_some2, putE_at, setM_at, setO_at, stripE_at, stripM_at, Slot.strip_v, Slot.strip_a, Slot.strip_mk, An.strip, argE_at, noM_at, objE_at, m_init, m_put, m_put0, m_row, m_obj, m_strip, m_stripA, m_stripX, ↓seqK_nrm, ↓seqK_exit, ↓seqK_ret, ↓regK_at, ↓blkK_nrm, ↓blkK_exit, ↓blkK_ret, ↓condC_true, ↓condC_false, ↓guardC_bool, ↓guardC_tup, ↓r_skip, ↓r_seq, ↓r_reg, ↓r_cond, ↓r_block, ↓r_loop, ↓r_exit, ↓r_ret, ↓a_nrm, ↓a_exit, ↓a_ret, ↓o_nil, ↓o_cons, ↓s_plain, ↓s_guard, e_none, e_set, e_newp, e_newr, e_app, e_obj, e_mk, K.run, Opd.get, setRowC, AV.leaf, AV.whole, AV.cells, binC, mmC, eqC, natOf, loadC, loadI, Cl.okPtr, Cl.okMem, fillC, fin, finV, objAt, unname, resC, AV.free, AV.free0, AV.back, AV.backN, AV.isObj, AV.named, pack, lendAll, lend, objsOf, endC, AV.elems, Opd.an, zeroAn, elsOk_nil, elsOk_cons, elsOk_append, elsOk_map, elsOk_take, elsOk_drop, take_map_len, List.range_succ, List.range_zero, List.nil_append, List.cons_append, e5, e2, em]
    refine hk _ ?_
    simp only [List.drop_length, findF] at hf
    exact hf.symm
  | succ n ih =>
    intro i hi hf s e5 e1 e2 em
    have hlt : i < S.l.length := by omega
    have hw : IntKind.i64.wrap ((i : Int) + 1) = ((i + 1 : Nat) : Int) := by rw [IntWalk.i64_in _ (by omega)]; rfl
    rw [List.drop_eq_getElem_cons hlt] at hf
    simp only [findF] at hf
    have em' := em
    simp only [stC, List.map_cons, List.map_nil] at em
    refine evL_intro ?_
    by_cases h : (S.l[i]).id = id
    · rw [if_pos h] at hf
      simp [c32_1, e_ob2, frz_free, frz_map, AV.frz, AV.frz0, kill_free, kill_map, AV.kill, AV.kill0, killE_at, killM_at, Slot.kill_v, Slot.kill_a, Slot.kill_mk, m_kill, m_kill0, e_rn, -Option.bind_some, ↓bind_some2, putE_at, setM_at, setO_at, stripE_at, stripM_at, Slot.strip_v, Slot.strip_a, Slot.strip_mk, An.strip, argE_at, noM_at, objE_at, m_init, m_put, m_put0, m_row, m_obj, m_strip, m_stripA, m_stripX, ↓seqK_nrm, ↓seqK_exit, ↓seqK_ret, ↓regK_at, ↓blkK_nrm, ↓blkK_exit, ↓blkK_ret, ↓condC_true, ↓condC_false, ↓guardC_bool, ↓guardC_tup, ↓r_skip, ↓r_seq, ↓r_reg, ↓r_cond, ↓r_block, ↓r_loop, ↓r_exit, ↓r_ret, ↓a_nrm, ↓a_exit, ↓a_ret, ↓o_nil, ↓o_cons, ↓s_plain, ↓s_guard, e_none, e_set, e_newp, e_newr, e_app, e_obj, e_mk, K.run, Opd.get, setRowC, AV.leaf, AV.whole, AV.cells, binC, mmC, eqC, natOf, loadC, loadI, Cl.okPtr, Cl.okMem, fillC, fin, finV, objAt, unname, resC, AV.free, AV.free0, AV.back, AV.backN, AV.isObj, AV.named, pack, lendAll, lend, objsOf, endC, AV.elems, Opd.an, zeroAn, elsOk_nil, elsOk_cons, elsOk_append, elsOk_map, elsOk_take, elsOk_drop, take_map_len, List.range_succ, List.range_zero, List.nil_append, List.cons_append, e5, e2, e1, em, hlt, Pkt.cv, h]
      exact hr _ (by simp [hf, e5])
    · rw [if_neg h] at hf
      simp [c32_1, e_ob2, frz_free, frz_map, AV.frz, AV.frz0, kill_free, kill_map, AV.kill, AV.kill0, killE_at, killM_at, Slot.kill_v, Slot.kill_a, Slot.kill_mk, m_kill, m_kill0, e_rn, -Option.bind_some, ↓bind_some2, putE_at, setM_at, setO_at, stripE_at, stripM_at, Slot.strip_v, Slot.strip_a, Slot.strip_mk, An.strip, argE_at, noM_at, objE_at, m_init, m_put, m_put0, m_row, m_obj, m_strip, m_stripA, m_stripX, ↓seqK_nrm, ↓seqK_exit, ↓seqK_ret, ↓regK_at, ↓blkK_nrm, ↓blkK_exit, ↓blkK_ret, ↓condC_true, ↓condC_false, ↓guardC_bool, ↓guardC_tup, ↓r_skip, ↓r_seq, ↓r_reg, ↓r_cond, ↓r_block, ↓r_loop, ↓r_exit, ↓r_ret, ↓a_nrm, ↓a_exit, ↓a_ret, ↓o_nil, ↓o_cons, ↓s_plain, ↓s_guard, e_none, e_set, e_newp, e_newr, e_app, e_obj, e_mk, K.run, Opd.get, setRowC, AV.leaf, AV.whole, AV.cells, binC, mmC, eqC, natOf, loadC, loadI, Cl.okPtr, Cl.okMem, fillC, fin, finV, objAt, unname, resC, AV.free, AV.free0, AV.back, AV.backN, AV.isObj, AV.named, pack, lendAll, lend, objsOf, endC, AV.elems, Opd.an, zeroAn, elsOk_nil, elsOk_cons, elsOk_append, elsOk_map, elsOk_take, elsOk_drop, take_map_len, List.range_succ, List.range_zero, List.nil_append, List.cons_append, e5, e2, e1, em, hlt, Pkt.cv, h, hw]
      refine ih (i + 1) (by omega) hf _ ?_ ?_ ?_ ?_ <;> simp [e5, e1, e2, em, stC, hw, Pkt.cv]
theorem find_ev (hT : T 32 = some c32) (b1 b2 : Bool) (S : St) (id : Int) (hlen : S.l.length ≤ 9223372036854775807) : evC T ext 32 [stA b1 b2 S, .int .i64 id] none = some (.int .i64 (findF id 0 S.l), none) := by
  refine evC_intro c32 hT rfl ?_
  simp [c32, e_ob2, frz_free, frz_map, AV.frz, AV.frz0, kill_free, kill_map, AV.kill, AV.kill0, killE_at, killM_at, Slot.kill_v, Slot.kill_a, Slot.kill_mk, m_kill, m_kill0, e_rn, -Option.bind_some, ↓bind_some2, putE_at, setM_at, setO_at, stripE_at, stripM_at, Slot.strip_v, Slot.strip_a, Slot.strip_mk, An.strip, argE_at, noM_at, objE_at, m_init, m_put, m_put0, m_row, m_obj, m_strip, m_stripA, m_stripX, ↓seqK_nrm, ↓seqK_exit, ↓seqK_ret, ↓regK_at, ↓blkK_nrm, ↓blkK_exit, ↓blkK_ret, ↓condC_true, ↓condC_false, ↓guardC_bool, ↓guardC_tup, ↓r_skip, ↓r_seq, ↓r_reg, ↓r_cond, ↓r_block, ↓r_loop, ↓r_exit, ↓r_ret, ↓a_nrm, ↓a_exit, ↓a_ret, ↓o_nil, ↓o_cons, ↓s_plain, ↓s_guard, e_none, e_set, e_newp, e_newr, e_app, e_obj, e_mk, K.run, Opd.get, setRowC, AV.leaf, AV.whole, AV.cells, binC, mmC, eqC, natOf, loadC, loadI, Cl.okPtr, Cl.okMem, fillC, fin, finV, objAt, unname, resC, AV.free, AV.free0, AV.back, AV.backN, AV.isObj, AV.named, pack, lendAll, lend, objsOf, endC, AV.elems, Opd.an, zeroAn, elsOk_nil, elsOk_cons, elsOk_append, elsOk_map, elsOk_take, elsOk_drop, take_map_len, List.range_succ, List.range_zero, List.nil_append, List.cons_append, stA, stC]
  refine find_lp b1 b2 S id hlen _ 1 _ (fun s hf => ?_) (fun s h4 => ?_) S.l.length 0 (by simp) rfl _ ?_ ?_ ?_ ?_ <;> simp [e_ob2, frz_free, frz_map, AV.frz, AV.frz0, kill_free, kill_map, AV.kill, AV.kill0, killE_at, killM_at, Slot.kill_v, Slot.kill_a, Slot.kill_mk, m_kill, m_kill0, e_rn, -Option.bind_some, ↓bind_some2, putE_at, setM_at, setO_at, stripE_at, stripM_at, Slot.strip_v, Slot.strip_a, Slot.strip_mk, An.strip, argE_at, noM_at, objE_at, m_init, m_put, m_put0, m_row, m_obj, m_strip, m_stripA, m_stripX, ↓seqK_nrm, ↓seqK_exit, ↓seqK_ret, ↓regK_at, ↓blkK_nrm, ↓blkK_exit, ↓blkK_ret, ↓condC_true, ↓condC_false, ↓guardC_bool, ↓guardC_tup, ↓r_skip, ↓r_seq, ↓r_reg, ↓r_cond, ↓r_block, ↓r_loop, ↓r_exit, ↓r_ret, ↓a_nrm, ↓a_exit, ↓a_ret, ↓o_nil, ↓o_cons, ↓s_plain, ↓s_guard, e_none, e_set, e_newp, e_newr, e_app, e_obj, e_mk, K.run, Opd.get, setRowC, AV.leaf, AV.whole, AV.cells, binC, mmC, eqC, natOf, loadC, loadI, Cl.okPtr, Cl.okMem, fillC, fin, finV, objAt, unname, resC, AV.free, AV.free0, AV.back, AV.backN, AV.isObj, AV.named, pack, lendAll, lend, objsOf, endC, AV.elems, Opd.an, zeroAn, elsOk_nil, elsOk_cons, elsOk_append, elsOk_map, elsOk_take, elsOk_drop, take_map_len, List.range_succ, List.range_zero, List.nil_append, List.cons_append, stC, *]
theorem iscut_lp (hT : T 45 = some c45) (b1 b2 : Bool) (S : St) (a b : Int) (hlen : S.cut.length ≤ 9223372036854775807) (r : RV) (m : Nat) (k : Ex → MSt → Option RV) (hk : ∀ s, S.isCut a b = false → k (.exit 0) s = some r) (hr : ∀ s : MSt, S.isCut a b = true → (s.env 6).v = .bool true → k .ret s = some r) :
    ∀ (n i : Nat), i + n = S.cut.length → ((S.cut.drop i).any fun c => c == pairOf a b) = S.isCut a b → ∀ s : MSt, (s.env 7).v = .int .i64 i → (s.env 1).v = .int .i64 a → (s.env 2).v = .int .i64 b → (s.env 3).v = .ptr 3 m 0 → s.mem 3 m = some ((stC b1 b2 S).map (⟨·, .no⟩)) → evL T ext c36_1 s k = some r := by
  intro n
  induction n with
  | zero =>
    intro i hi hf s e7 e1 e2 e3 em
    obtain rfl : i = S.cut.length := by omega
    refine evL_intro ?_
    simp only [stC, List.map_cons, List.map_nil] at em
    simp [c36_1, e_ob2, frz_free, frz_map, AV.frz, AV.frz0, kill_free, kill_map, AV.kill, AV.kill0, killE_at, killM_at, Slot.kill_v, Slot.kill_a, Slot.kill_mk, m_kill, m_kill0, e_rn, -Option.bind_some, ↓bind_some2, putE_at, setM_at, setO_at, stripE_at, stripM_at, Slot.strip_v, Slot.strip_a, Slot.strip_mk, An.strip, argE_at, noM_at, objE_at, m_init, m_put, m_put0, m_row, m_obj, m_strip, m_stripA, m_stripX, ↓seqK_nrm, ↓seqK_exit, ↓seqK_ret, ↓regK_at, ↓blkK_nrm, ↓blkK_exit, ↓blkK_ret, ↓condC_true, ↓condC_false, ↓guardC_bool, ↓guardC_tup, ↓r_skip, ↓r_seq, ↓r_reg, ↓r_cond, ↓r_block, ↓r_loop, ↓r_exit, ↓r_ret, ↓a_nrm, ↓a_exit, ↓a_ret, ↓o_nil, ↓o_cons, ↓s_plain, ↓s_guard, e_none, e_set, e_newp, e_newr, e_app, e_obj, e_mk, K.run, Opd.get, setRowC, AV.leaf, AV.whole, AV.cells, binC, mmC, eqC, natOf, loadC, loadI, Cl.okPtr, Cl.okMem, fillC, fin, finV, objAt, unname, resC, AV.free, AV.free0, AV.back, AV.backN, AV.isObj, AV.named, pack, lendAll, lend, objsOf, endC, AV.elems, Opd.an, zeroAn, elsOk_nil, elsOk_cons, elsOk_append, elsOk_map, elsOk_take, elsOk_drop, take_map_len, List.range_succ, List.range_zero, List.nil_append, List.cons_append, e7, e3, em]
    refine hk _ ?_
    simp only [List.drop_length, List.any_nil] at hf
    exact hf.symm
  | succ n ih =>
    intro i hi hf s e7 e1 e2 e3 em
    have hlt : i < S.cut.length := by omega
    have hw : IntKind.i64.wrap ((i : Int) + 1) = ((i + 1 : Nat) : Int) := by rw [IntWalk.i64_in _ (by omega)]; rfl
    rw [List.drop_eq_getElem_cons hlt] at hf
    simp only [List.any_cons] at hf
    have em' := em
    have hp := pair_ev (ext := ext) hT a b
    simp only [stC, List.map_cons, List.map_nil] at em
    simp only [cutP] at hp
    refine evL_intro ?_
    by_cases h1 : (S.cut[i]).1 = (pairOf a b).1
    · by_cases h2 : (S.cut[i]).2 = (pairOf a b).2
      · have : (S.cut[i] == pairOf a b) = true := by simp [Prod.ext_iff, h1, h2]
        simp only [this, Bool.true_or] at hf
        simp [c36_1, e_ob2, frz_free, frz_map, AV.frz, AV.frz0, kill_free, kill_map, AV.kill, AV.kill0, killE_at, killM_at, Slot.kill_v, Slot.kill_a, Slot.kill_mk, m_kill, m_kill0, e_rn, -Option.bind_some, ↓bind_some2, putE_at, setM_at, setO_at, stripE_at, stripM_at, Slot.strip_v, Slot.strip_a, Slot.strip_mk, An.strip, argE_at, noM_at, objE_at, m_init, m_put, m_put0, m_row, m_obj, m_strip, m_stripA, m_stripX, ↓seqK_nrm, ↓seqK_exit, ↓seqK_ret, ↓regK_at, ↓blkK_nrm, ↓blkK_exit, ↓blkK_ret, ↓condC_true, ↓condC_false, ↓guardC_bool, ↓guardC_tup, ↓r_skip, ↓r_seq, ↓r_reg, ↓r_cond, ↓r_block, ↓r_loop, ↓r_exit, ↓r_ret, ↓a_nrm, ↓a_exit, ↓a_ret, ↓o_nil, ↓o_cons, ↓s_plain, ↓s_guard, e_none, e_set, e_newp, e_newr, e_app, e_obj, e_mk, K.run, Opd.get, setRowC, AV.leaf, AV.whole, AV.cells, binC, mmC, eqC, natOf, loadC, loadI, Cl.okPtr, Cl.okMem, fillC, fin, finV, objAt, unname, resC, AV.free, AV.free0, AV.back, AV.backN, AV.isObj, AV.named, pack, lendAll, lend, objsOf, endC, AV.elems, Opd.an, zeroAn, elsOk_nil, elsOk_cons, elsOk_append, elsOk_map, elsOk_take, elsOk_drop, take_map_len, List.range_succ, List.range_zero, List.nil_append, List.cons_append, e7, e3, e2, e1, em, hlt, cutP, hp, h1, h2]
        exact hr _ hf.symm (by simp)
      · have : (S.cut[i] == pairOf a b) = false := by simp [Prod.ext_iff, h1, h2]
        simp only [this, Bool.false_or] at hf
        simp [c36_1, e_ob2, frz_free, frz_map, AV.frz, AV.frz0, kill_free, kill_map, AV.kill, AV.kill0, killE_at, killM_at, Slot.kill_v, Slot.kill_a, Slot.kill_mk, m_kill, m_kill0, e_rn, -Option.bind_some, ↓bind_some2, putE_at, setM_at, setO_at, stripE_at, stripM_at, Slot.strip_v, Slot.strip_a, Slot.strip_mk, An.strip, argE_at, noM_at, objE_at, m_init, m_put, m_put0, m_row, m_obj, m_strip, m_stripA, m_stripX, ↓seqK_nrm, ↓seqK_exit, ↓seqK_ret, ↓regK_at, ↓blkK_nrm, ↓blkK_exit, ↓blkK_ret, ↓condC_true, ↓condC_false, ↓guardC_bool, ↓guardC_tup, ↓r_skip, ↓r_seq, ↓r_reg, ↓r_cond, ↓r_block, ↓r_loop, ↓r_exit, ↓r_ret, ↓a_nrm, ↓a_exit, ↓a_ret, ↓o_nil, ↓o_cons, ↓s_plain, ↓s_guard, e_none, e_set, e_newp, e_newr, e_app, e_obj, e_mk, K.run, Opd.get, setRowC, AV.leaf, AV.whole, AV.cells, binC, mmC, eqC, natOf, loadC, loadI, Cl.okPtr, Cl.okMem, fillC, fin, finV, objAt, unname, resC, AV.free, AV.free0, AV.back, AV.backN, AV.isObj, AV.named, pack, lendAll, lend, objsOf, endC, AV.elems, Opd.an, zeroAn, elsOk_nil, elsOk_cons, elsOk_append, elsOk_map, elsOk_take, elsOk_drop, take_map_len, List.range_succ, List.range_zero, List.nil_append, List.cons_append, e7, e3, e2, e1, em, hlt, cutP, hp, h1, h2, hw]
        refine ih (i + 1) (by omega) hf _ ?_ ?_ ?_ ?_ ?_ <;> simp [e7, e1, e2, e3, em, stC, hw, cutP]
    · have : (S.cut[i] == pairOf a b) = false := by simp [Prod.ext_iff, h1]
      simp only [this, Bool.false_or] at hf
      simp [c36_1, e_ob2, frz_free, frz_map, AV.frz, AV.frz0, kill_free, kill_map, AV.kill, AV.kill0, killE_at, killM_at, Slot.kill_v, Slot.kill_a, Slot.kill_mk, m_kill, m_kill0, e_rn, -Option.bind_some, ↓bind_some2, putE_at, setM_at, setO_at, stripE_at, stripM_at, Slot.strip_v, Slot.strip_a, Slot.strip_mk, An.strip, argE_at, noM_at, objE_at, m_init, m_put, m_put0, m_row, m_obj, m_strip, m_stripA, m_stripX, ↓seqK_nrm, ↓seqK_exit, ↓seqK_ret, ↓regK_at, ↓blkK_nrm, ↓blkK_exit, ↓blkK_ret, ↓condC_true, ↓condC_false, ↓guardC_bool, ↓guardC_tup, ↓r_skip, ↓r_seq, ↓r_reg, ↓r_cond, ↓r_block, ↓r_loop, ↓r_exit, ↓r_ret, ↓a_nrm, ↓a_exit, ↓a_ret, ↓o_nil, ↓o_cons, ↓s_plain, ↓s_guard, e_none, e_set, e_newp, e_newr, e_app, e_obj, e_mk, K.run, Opd.get, setRowC, AV.leaf, AV.whole, AV.cells, binC, mmC, eqC, natOf, loadC, loadI, Cl.okPtr, Cl.okMem, fillC, fin, finV, objAt, unname, resC, AV.free, AV.free0, AV.back, AV.backN, AV.isObj, AV.named, pack, lendAll, lend, objsOf, endC, AV.elems, Opd.an, zeroAn, elsOk_nil, elsOk_cons, elsOk_append, elsOk_map, elsOk_take, elsOk_drop, take_map_len, List.range_succ, List.range_zero, List.nil_append, List.cons_append, e7, e3, e2, e1, em, hlt, cutP, hp, h1, hw]
      refine ih (i + 1) (by omega) hf _ ?_ ?_ ?_ ?_ ?_ <;> simp [e7, e1, e2, e3, em, stC, hw, cutP]
theorem iscut_ev (hT : T 45 = some c45) (hT' : T 36 = some c36) (b1 b2 : Bool) (S : St) (a b : Int) (hlen : S.cut.length ≤ 9223372036854775807) : evC T ext 36 [stA b1 b2 S, .int .i64 a, .int .i64 b] none = some (.bool (S.isCut a b), none) := by
  refine evC_intro c36 hT' rfl ?_
  simp [c36, e_ob2, frz_free, frz_map, AV.frz, AV.frz0, kill_free, kill_map, AV.kill, AV.kill0, killE_at, killM_at, Slot.kill_v, Slot.kill_a, Slot.kill_mk, m_kill, m_kill0, e_rn, -Option.bind_some, ↓bind_some2, putE_at, setM_at, setO_at, stripE_at, stripM_at, Slot.strip_v, Slot.strip_a, Slot.strip_mk, An.strip, argE_at, noM_at, objE_at, m_init, m_put, m_put0, m_row, m_obj, m_strip, m_stripA, m_stripX, ↓seqK_nrm, ↓seqK_exit, ↓seqK_ret, ↓regK_at, ↓blkK_nrm, ↓blkK_exit, ↓blkK_ret, ↓condC_true, ↓condC_false, ↓guardC_bool, ↓guardC_tup, ↓r_skip, ↓r_seq, ↓r_reg, ↓r_cond, ↓r_block, ↓r_loop, ↓r_exit, ↓r_ret, ↓a_nrm, ↓a_exit, ↓a_ret, ↓o_nil, ↓o_cons, ↓s_plain, ↓s_guard, e_none, e_set, e_newp, e_newr, e_app, e_obj, e_mk, K.run, Opd.get, setRowC, AV.leaf, AV.whole, AV.cells, binC, mmC, eqC, natOf, loadC, loadI, Cl.okPtr, Cl.okMem, fillC, fin, finV, objAt, unname, resC, AV.free, AV.free0, AV.back, AV.backN, AV.isObj, AV.named, pack, lendAll, lend, objsOf, endC, AV.elems, Opd.an, zeroAn, elsOk_nil, elsOk_cons, elsOk_append, elsOk_map, elsOk_take, elsOk_drop, take_map_len, List.range_succ, List.range_zero, List.nil_append, List.cons_append, stA, stC]
  refine iscut_lp hT b1 b2 S a b hlen _ 1 _ (fun s hf => ?_) (fun s hf h4 => ?_) S.cut.length 0 (by simp) rfl _ ?_ ?_ ?_ ?_ ?_ <;> simp [e_ob2, frz_free, frz_map, AV.frz, AV.frz0, kill_free, kill_map, AV.kill, AV.kill0, killE_at, killM_at, Slot.kill_v, Slot.kill_a, Slot.kill_mk, m_kill, m_kill0, e_rn, -Option.bind_some, ↓bind_some2, putE_at, setM_at, setO_at, stripE_at, stripM_at, Slot.strip_v, Slot.strip_a, Slot.strip_mk, An.strip, argE_at, noM_at, objE_at, m_init, m_put, m_put0, m_row, m_obj, m_strip, m_stripA, m_stripX, ↓seqK_nrm, ↓seqK_exit, ↓seqK_ret, ↓regK_at, ↓blkK_nrm, ↓blkK_exit, ↓blkK_ret, ↓condC_true, ↓condC_false, ↓guardC_bool, ↓guardC_tup, ↓r_skip, ↓r_seq, ↓r_reg, ↓r_cond, ↓r_block, ↓r_loop, ↓r_exit, ↓r_ret, ↓a_nrm, ↓a_exit, ↓a_ret, ↓o_nil, ↓o_cons, ↓s_plain, ↓s_guard, e_none, e_set, e_newp, e_newr, e_app, e_obj, e_mk, K.run, Opd.get, setRowC, AV.leaf, AV.whole, AV.cells, binC, mmC, eqC, natOf, loadC, loadI, Cl.okPtr, Cl.okMem, fillC, fin, finV, objAt, unname, resC, AV.free, AV.free0, AV.back, AV.backN, AV.isObj, AV.named, pack, lendAll, lend, objsOf, endC, AV.elems, Opd.an, zeroAn, elsOk_nil, elsOk_cons, elsOk_append, elsOk_map, elsOk_take, elsOk_drop, take_map_len, List.range_succ, List.range_zero, List.nil_append, List.cons_append, stC, *]
theorem findF_eq (id : Int) : ∀ (l : List Pkt) (i : Nat), findF id i l = match l.findIdx? (fun p => p.id == id) with | none => -1 | some j => ((i + j : Nat) : Int)
  | [], i => rfl
  | p :: r, i => by
    unfold findF
    rw [List.findIdx?_cons]
    by_cases h : p.id = id
    · simp [h]
    · rw [if_neg h, findF_eq id r (i + 1)]
      simp only [beq_iff_eq, h, if_false]
      cases r.findIdx? (fun p => p.id == id) with
      | none => rfl
      | some j => simp only [Option.map_some]; congr 1; omega
theorem els_pk (l : List Pkt) : elsOk 4 (l.map Pkt.cv) = true := elsOk_map _ _ _ fun _ => rfl
theorem els_cut (l : List (Int × Int)) : elsOk 2 (l.map cutP) = true := elsOk_map _ _ _ fun _ => rfl
theorem cv_len (p : Pkt) : p.cv.length = 4 := rfl
theorem cutP_len (c : Int × Int) : (cutP c).length = 2 := rfl
theorem without_ev (hT : T 37 = some c37) (b1 b2 : Bool) (S : St) (i : Nat) (hi : i < S.l.length) (hlen : S.l.length ≤ 1000) : evC T ext 37 [stA b1 b2 S, .int .i64 i] none = some (stA false b2 { S with l := S.l.eraseIdx i }, none) := by
  have hw : IntKind.i64.wrap ((i : Int) + 1) = ((i + 1 : Nat) : Int) := by rw [IntWalk.i64_in _ (by omega)]; rfl
  refine evC_intro c37 hT rfl ?_
  have h1 : i ≤ S.l.length := by omega
  have h2 : i + 1 ≤ S.l.length := by omega
  have h3 : min i S.l.length = i := by omega
  have h6 : roomOk 40 (i + (S.l.length - (i + 1))) = true := roomOk_iff.2 ⟨by omega, by omega⟩
  have h7 : roomOk 40 i = true := roomOk_iff.2 ⟨by omega, by omega⟩
  have h10 : (0 : Int) ≤ (i : Int) + 1 := by omega
  simp [c37, e_ob2, frz_free, frz_map, AV.frz, AV.frz0, kill_free, kill_map, AV.kill, AV.kill0, killE_at, killM_at, Slot.kill_v, Slot.kill_a, Slot.kill_mk, m_kill, m_kill0, e_rn, -Option.bind_some, ↓bind_some2, putE_at, setM_at, setO_at, stripE_at, stripM_at, Slot.strip_v, Slot.strip_a, Slot.strip_mk, An.strip, argE_at, noM_at, objE_at, m_init, m_put, m_put0, m_row, m_obj, m_strip, m_stripA, m_stripX, ↓seqK_nrm, ↓seqK_exit, ↓seqK_ret, ↓regK_at, ↓blkK_nrm, ↓blkK_exit, ↓blkK_ret, ↓condC_true, ↓condC_false, ↓guardC_bool, ↓guardC_tup, ↓r_skip, ↓r_seq, ↓r_reg, ↓r_cond, ↓r_block, ↓r_loop, ↓r_exit, ↓r_ret, ↓a_nrm, ↓a_exit, ↓a_ret, ↓o_nil, ↓o_cons, ↓s_plain, ↓s_guard, e_none, e_set, e_newp, e_newr, e_app, e_obj, e_mk, K.run, Opd.get, setRowC, AV.leaf, AV.whole, AV.cells, binC, mmC, eqC, natOf, loadC, loadI, Cl.okPtr, Cl.okMem, fillC, fin, finV, objAt, unname, resC, AV.free, AV.free0, AV.back, AV.backN, AV.isObj, AV.named, pack, lendAll, lend, objsOf, endC, AV.elems, Opd.an, zeroAn, elsOk_nil, elsOk_cons, elsOk_append, elsOk_map, elsOk_take, elsOk_drop, take_map_len, List.range_succ, List.range_zero, List.nil_append, List.cons_append, stA, stC, hw, h1, h2, h3, h6, h7, h10, els_pk]
  rw [List.eraseIdx_eq_take_drop_succ, List.map_append, List.map_take, List.map_drop]
theorem radd_ev (hT : T 34 = some c34) (b1 b2 : Bool) (S : St) (p : Pkt) (hlen : S.l.length < 64) (hn : 0 ≤ S.next ∧ S.next ≤ 2000000) : evC T ext 34 [stA b1 b2 S, .agg p.cv] none = some (.tup [stA false b2 { S with l := S.l ++ [{ p with id := S.next }], next := S.next + 1 }, resA ⟨S.next, zeroP, 0, 0⟩], none) := by
  have hw : IntKind.i64.wrap (S.next + 1) = S.next + 1 := by rw [IntWalk.i64_in _ (by omega)]
  refine evC_intro c34 hT rfl ?_
  have h1 : ¬ (64 : Int) ≤ S.l.length := by omega
  have h6 : roomOk 40 S.l.length = true := roomOk_iff.2 ⟨by omega, by omega⟩
  have h7 : roomOk 40 (S.l.length + 1) = true := roomOk_iff.2 ⟨by omega, by omega⟩
  simp [c34, e_ob2, frz_free, frz_map, AV.frz, AV.frz0, kill_free, kill_map, AV.kill, AV.kill0, killE_at, killM_at, Slot.kill_v, Slot.kill_a, Slot.kill_mk, m_kill, m_kill0, e_rn, -Option.bind_some, ↓bind_some2, putE_at, setM_at, setO_at, stripE_at, stripM_at, Slot.strip_v, Slot.strip_a, Slot.strip_mk, An.strip, argE_at, noM_at, objE_at, m_init, m_put, m_put0, m_row, m_obj, m_strip, m_stripA, m_stripX, ↓seqK_nrm, ↓seqK_exit, ↓seqK_ret, ↓regK_at, ↓blkK_nrm, ↓blkK_exit, ↓blkK_ret, ↓condC_true, ↓condC_false, ↓guardC_bool, ↓guardC_tup, ↓r_skip, ↓r_seq, ↓r_reg, ↓r_cond, ↓r_block, ↓r_loop, ↓r_exit, ↓r_ret, ↓a_nrm, ↓a_exit, ↓a_ret, ↓o_nil, ↓o_cons, ↓s_plain, ↓s_guard, e_none, e_set, e_newp, e_newr, e_app, e_obj, e_mk, K.run, Opd.get, setRowC, AV.leaf, AV.whole, AV.cells, binC, mmC, eqC, natOf, loadC, loadI, Cl.okPtr, Cl.okMem, fillC, fin, finV, objAt, unname, resC, AV.free, AV.free0, AV.back, AV.backN, AV.isObj, AV.named, pack, lendAll, lend, objsOf, endC, AV.elems, Opd.an, zeroAn, elsOk_nil, elsOk_cons, elsOk_append, elsOk_map, elsOk_take, elsOk_drop, take_map_len, List.range_succ, List.range_zero, List.nil_append, List.cons_append, stA, stC, hw, h1, Pkt.cv, h6, h7, els_pk]
  rfl
theorem radd_full (hT : T 34 = some c34) (b1 b2 : Bool) (S : St) (p : Pkt) (hlen : ¬ S.l.length < 64) : evC T ext 34 [stA b1 b2 S, .agg p.cv] none = some (.tup [stA b1 b2 S, resA ⟨0, zeroP, 0, 3⟩], none) := by
  refine evC_intro c34 hT rfl ?_
  have h1 : (64 : Int) ≤ S.l.length := by omega
  simp [c34, e_ob2, frz_free, frz_map, AV.frz, AV.frz0, kill_free, kill_map, AV.kill, AV.kill0, killE_at, killM_at, Slot.kill_v, Slot.kill_a, Slot.kill_mk, m_kill, m_kill0, e_rn, -Option.bind_some, ↓bind_some2, putE_at, setM_at, setO_at, stripE_at, stripM_at, Slot.strip_v, Slot.strip_a, Slot.strip_mk, An.strip, argE_at, noM_at, objE_at, m_init, m_put, m_put0, m_row, m_obj, m_strip, m_stripA, m_stripX, ↓seqK_nrm, ↓seqK_exit, ↓seqK_ret, ↓regK_at, ↓blkK_nrm, ↓blkK_exit, ↓blkK_ret, ↓condC_true, ↓condC_false, ↓guardC_bool, ↓guardC_tup, ↓r_skip, ↓r_seq, ↓r_reg, ↓r_cond, ↓r_block, ↓r_loop, ↓r_exit, ↓r_ret, ↓a_nrm, ↓a_exit, ↓a_ret, ↓o_nil, ↓o_cons, ↓s_plain, ↓s_guard, e_none, e_set, e_newp, e_newr, e_app, e_obj, e_mk, K.run, Opd.get, setRowC, AV.leaf, AV.whole, AV.cells, binC, mmC, eqC, natOf, loadC, loadI, Cl.okPtr, Cl.okMem, fillC, fin, finV, objAt, unname, resC, AV.free, AV.free0, AV.back, AV.backN, AV.isObj, AV.named, pack, lendAll, lend, objsOf, endC, AV.elems, Opd.an, zeroAn, elsOk_nil, elsOk_cons, elsOk_append, elsOk_map, elsOk_take, elsOk_drop, take_map_len, List.range_succ, List.range_zero, List.nil_append, List.cons_append, stA, stC, h1, Pkt.cv]
  rfl
end
end Go.Proofs.Ytinpinjjdkilpaa
/- The document's cut and Ready, on the machine. -/
namespace Go.Proofs.Ytinpinjjdkilpaa
open Go Go.RowKit
def c35_1 : C := .seq (.seq (.reg [⟨(.some 29), (.mv (.t 7)), .none⟩, ⟨(.some 30), (.faddr 3 (.t 2)), .none⟩, ⟨(.some 31), (.load .any .false 1 (.t 30)), .none⟩, ⟨(.some 32), (.len .false (.t 31)), .none⟩, ⟨(.some 33), (.bin .lss .false (.t 29) (.t 32)), .none⟩]) (.cond (.t 33) .skip (.exit 0))) (.seq (.block 1 (.seq (.reg [⟨(.some 36), (.faddr 3 (.t 2)), .none⟩, ⟨(.some 37), (.load .any .false 1 (.t 36)), .none⟩, ⟨(.some 38), (.mv (.t 7)), .none⟩, ⟨(.some 39), (.iaddr 2 (.t 37) (.t 38)), .none⟩, ⟨(.some 40), (.load .any .true 2 (.t 39)), .none⟩, ⟨(.some 41), (.faddr 1 (.t 3)), .none⟩, ⟨(.some 42), (.load .any .false 1 (.t 41)), .none⟩, ⟨(.some 43), (.faddr 2 (.t 3)), .none⟩, ⟨(.some 44), (.load .any .false 1 (.t 43)), .none⟩, ⟨(.some 45), (.call .any 45 [(.t 42), (.t 44)]), .none⟩, ⟨(.some 46), (.eqa .true [0, 0] (.t 40) (.t 45)), .none⟩]) (.cond (.t 46) (.reg [⟨(.some 47), (.mv (.t 6)), .none⟩, ⟨(.some 48), (.faddr 3 (.t 2)), .none⟩, ⟨(.some 49), (.load .any .false 1 (.t 48)), .none⟩, ⟨(.some 50), (.mv (.t 7)), .none⟩, ⟨(.some 51), (.iaddr 2 (.t 49) (.t 50)), .none⟩, ⟨(.some 52), (.load .any .true 2 (.t 51)), .none⟩, ⟨(.some 53), (.bsl [(.int .i64 0), (.int .i64 0)] 1 [(0, (.t 52))]), .none⟩, ⟨(.some 54), (.app .any 73 2 16 (.t 47) (.t 53)), .none⟩, ⟨(.some 6), (.mv (.t 54)), .none⟩]) .skip))) (.reg [⟨(.some 34), (.mv (.t 7)), .none⟩, ⟨(.some 35), (.bin .add .false (.t 34) (.c (.int .i64 1))), .none⟩, ⟨(.some 7), (.mv (.t 35)), .none⟩]))
def c35 : FnC := ⟨(.seq (.reg [⟨(.some 2), (.box 4 (.t 0)), .none⟩, ⟨(.some 3), (.box 6 (.t 1)), .none⟩, ⟨(.some 4), (.alloc [(.int .i64 0), (.int .i64 0), (.sl .true []), (.sl .true [])]), .none⟩, ⟨(.some 5), (.alloc [(.int .i64 0), (.int .i64 0), (.int .i64 0), (.int .i64 0), (.str (ByteArray.mk #[])), (.int .i64 0), (.int .i64 0)]), .none⟩]) (.seq (.seq (.reg [⟨(.some 8), (.load .any .true 4 (.t 2)), .none⟩, ⟨(.some 9), (.faddr 1 (.t 3)), .none⟩, ⟨(.some 10), (.load .any .false 1 (.t 9)), .none⟩, ⟨(.some 11), (.call .any 33 [(.t 8), (.t 10)]), .none⟩, ⟨(.some 12), (.un .not (.t 11)), .none⟩, ⟨(.some 13), (.mv (.t 12)), .none⟩, ⟨(.some 14), (.load .any .true 4 (.t 2)), (.some (13, .false))⟩, ⟨(.some 15), (.faddr 2 (.t 3)), (.some (13, .false))⟩, ⟨(.some 16), (.load .any .false 1 (.t 15)), (.some (13, .false))⟩, ⟨(.some 17), (.call .any 33 [(.t 14), (.t 16)]), (.some (13, .false))⟩, ⟨(.some 18), (.un .not (.t 17)), (.some (13, .false))⟩, ⟨(.some 19), (.pick (.t 13) (.c (.bool .true)) (.t 18)), .none⟩, ⟨(.some 20), (.mv (.t 19)), .none⟩, ⟨(.some 21), (.faddr 1 (.t 3)), (.some (20, .false))⟩, ⟨(.some 22), (.load .any .false 1 (.t 21)), (.some (20, .false))⟩, ⟨(.some 23), (.faddr 2 (.t 3)), (.some (20, .false))⟩, ⟨(.some 24), (.load .any .false 1 (.t 23)), (.some (20, .false))⟩, ⟨(.some 25), (.bin .eql .false (.t 22) (.t 24)), (.some (20, .false))⟩, ⟨(.some 26), (.pick (.t 20) (.c (.bool .true)) (.t 25)), .none⟩]) (.cond (.t 26) (.seq (.reg [⟨(.some 27), (.load .any .true 4 (.t 2)), .none⟩, ⟨(.some 28), (.build [(.int .i64 0), (.int .i64 0), (.int .i64 0), (.int .i64 0), (.str (ByteArray.mk #[])), (.int .i64 0), (.int .i64 0)] [(6, (1, (.c (.int .i64 7))))]), .none⟩, ⟨.none, (.store .any .true 4 (.t 4) (.t 27)), .none⟩, ⟨.none, (.store .any .true 7 (.t 5) (.t 28)), .none⟩]) .ret) .skip)) (.seq (.reg [⟨(.some 6), (.mv (.c (.sl .true []))), .none⟩]) (.seq (.seq (.reg [⟨(.some 7), (.mv (.c (.int .i64 0))), .none⟩]) (.block 0 (.loop c35_1))) (.seq (.seq (.reg [⟨(.some 55), (.faddr 5 (.t 3)), .none⟩, ⟨(.some 56), (.load .any .false 1 (.t 55)), .none⟩]) (.cond (.t 56) (.reg [⟨(.some 57), (.mv (.t 6)), .none⟩, ⟨(.some 58), (.faddr 1 (.t 3)), .none⟩, ⟨(.some 59), (.load .any .false 1 (.t 58)), .none⟩, ⟨(.some 60), (.faddr 2 (.t 3)), .none⟩, ⟨(.some 61), (.load .any .false 1 (.t 60)), .none⟩, ⟨(.some 62), (.call .any 45 [(.t 59), (.t 61)]), .none⟩, ⟨(.some 63), (.bsl [(.int .i64 0), (.int .i64 0)] 1 [(0, (.t 62))]), .none⟩, ⟨(.some 64), (.app .any 73 2 16 (.t 57) (.t 63)), .none⟩, ⟨(.some 6), (.mv (.t 64)), .none⟩]) .skip)) (.seq (.reg [⟨(.some 65), (.mv (.t 6)), .none⟩, ⟨(.some 66), (.faddr 3 (.t 2)), .none⟩, ⟨.none, (.store .any .false 1 (.t 66) (.t 65)), .none⟩]) (.seq (.reg [⟨(.some 67), (.load .any .true 4 (.t 2)), .none⟩, ⟨(.some 68), (.build [(.int .i64 0), (.int .i64 0), (.int .i64 0), (.int .i64 0), (.str (ByteArray.mk #[])), (.int .i64 0), (.int .i64 0)] []), .none⟩, ⟨.none, (.store .any .true 4 (.t 4) (.t 67)), .none⟩, ⟨.none, (.store .any .true 7 (.t 5) (.t 68)), .none⟩]) .ret))))))), [(.cell 4 .true 4), (.cell 5 .true 7)], 2, []⟩
def c38_1 : C := .seq (.seq (.reg [⟨(.some 5), (.mv (.t 4)), .none⟩, ⟨(.some 6), (.faddr 2 (.t 1)), .none⟩, ⟨(.some 7), (.load .any .false 1 (.t 6)), .none⟩, ⟨(.some 8), (.len .false (.t 7)), .none⟩, ⟨(.some 9), (.bin .lss .false (.t 5) (.t 8)), .none⟩]) (.cond (.t 9) .skip (.exit 0))) (.seq (.block 1 (.seq (.reg [⟨(.some 12), (.load .any .true 4 (.t 1)), .none⟩, ⟨(.some 13), (.faddr 2 (.t 1)), .none⟩, ⟨(.some 14), (.load .any .false 1 (.t 13)), .none⟩, ⟨(.some 15), (.mv (.t 4)), .none⟩, ⟨(.some 16), (.iaddr 4 (.t 14) (.t 15)), .none⟩, ⟨(.some 17), (.faddr 1 (.t 16)), .none⟩, ⟨(.some 18), (.load .any .false 1 (.t 17)), .none⟩, ⟨(.some 19), (.faddr 2 (.t 1)), .none⟩, ⟨(.some 20), (.load .any .false 1 (.t 19)), .none⟩, ⟨(.some 21), (.mv (.t 4)), .none⟩, ⟨(.some 22), (.iaddr 4 (.t 20) (.t 21)), .none⟩, ⟨(.some 23), (.faddr 2 (.t 22)), .none⟩, ⟨(.some 24), (.load .any .false 1 (.t 23)), .none⟩, ⟨(.some 25), (.call .any 36 [(.t 12), (.t 18), (.t 24)]), .none⟩, ⟨(.some 26), (.un .not (.t 25)), .none⟩]) (.cond (.t 26) (.reg [⟨(.some 27), (.mv (.t 3)), .none⟩, ⟨(.some 28), (.faddr 2 (.t 1)), .none⟩, ⟨(.some 29), (.load .any .false 1 (.t 28)), .none⟩, ⟨(.some 30), (.mv (.t 4)), .none⟩, ⟨(.some 31), (.iaddr 4 (.t 29) (.t 30)), .none⟩, ⟨(.some 32), (.load .any .true 4 (.t 31)), .none⟩, ⟨(.some 33), (.bsl [(.int .i64 0), (.int .i64 0), (.int .i64 0), (.str (ByteArray.mk #[]))] 1 [(0, (.t 32))]), .none⟩, ⟨(.some 34), (.app .any 42 4 40 (.t 27) (.t 33)), .none⟩, ⟨(.some 3), (.mv (.t 34)), .none⟩]) .skip))) (.reg [⟨(.some 10), (.mv (.t 4)), .none⟩, ⟨(.some 11), (.bin .add .false (.t 10) (.c (.int .i64 1))), .none⟩, ⟨(.some 4), (.mv (.t 11)), .none⟩]))
def c38 : FnC := ⟨(.seq (.reg [⟨(.some 1), (.box 4 (.t 0)), .none⟩, ⟨(.some 2), (.mv (.c (.sl .true []))), .none⟩]) (.seq (.reg [⟨(.some 3), (.mv (.c (.sl .true []))), .none⟩]) (.seq (.seq (.reg [⟨(.some 4), (.mv (.c (.int .i64 0))), .none⟩]) (.block 0 (.loop c38_1))) (.seq (.reg [⟨(.some 35), (.mv (.t 3)), .none⟩, ⟨(.some 2), (.mv (.t 35)), .none⟩]) .ret)))), [(.tmp 2)], 1, []⟩
set_option maxRecDepth 10000
set_option maxHeartbeats 1000000
set_option linter.unusedSimpArgs false
def errR (e : Int) : Res := ⟨0, zeroP, 0, e⟩
def St.doCut (S : St) (o : Op) : St × Res :=
  if S.node o.a && S.node o.b && !decide (o.a = o.b) then ({ S with cut := S.cut.filter (fun c => c != pairOf o.a o.b) ++ (if o.cut then [pairOf o.a o.b] else []) }, zeroR) else (S, errR 7)
structure KCut (b1 b2 : Bool) (S : St) (o : Op) (s : MSt) : Prop where
  e2 : (s.env 2).v = .ptr 2 1 0
  e3 : (s.env 3).v = .ptr 3 1 0
  e4 : (s.env 4).v = .ptr 4 1 0
  e5 : (s.env 5).v = .ptr 5 1 0
  m2 : s.mem 2 1 = some ((stC b1 b2 S).map (⟨·, .no⟩))
  m3 : s.mem 3 1 = some ((opC o).map (⟨·, .no⟩))
  m4 : s.mem 4 1 = some [⟨.int .i64 0, .no⟩, ⟨.int .i64 0, .no⟩, ⟨.sl true [], .ex⟩, ⟨.sl true [], .ex⟩]
  m5 : s.mem 5 1 = some [⟨.int .i64 0, .no⟩, ⟨.int .i64 0, .no⟩, ⟨.int .i64 0, .no⟩, ⟨.int .i64 0, .no⟩, ⟨.str ⟨#[]⟩, .no⟩, ⟨.int .i64 0, .no⟩, ⟨.int .i64 0, .no⟩]
section
variable {T : Nat → Option FnC} {ext : CallT}
theorem cut_lp (hT : T 45 = some c45) (b1 b2 : Bool) (S : St) (o : Op) (hlen : S.cut.length ≤ 1000) (r : RV) (k : Ex → MSt → Option RV)
    (hk : ∀ (s : MSt), KCut b1 b2 S o s → (s.env 6).v = .sl (S.cut.filter (fun c => c != pairOf o.a o.b)).isEmpty ((S.cut.filter (fun c => c != pairOf o.a o.b)).map cutP) → ((s.env 6).a = .ex ∨ (s.env 6).a = .own 54 73) → k (.exit 0) s = some r) :
    ∀ (n i : Nat) (acc : List (Int × Int)), i + n = S.cut.length → acc.length ≤ i → acc ++ (S.cut.drop i).filter (fun c => c != pairOf o.a o.b) = S.cut.filter (fun c => c != pairOf o.a o.b) → ∀ s : MSt, (s.env 7).v = .int .i64 i → KCut b1 b2 S o s → (s.env 6).v = .sl acc.isEmpty (acc.map cutP) → ((s.env 6).a = .ex ∨ (s.env 6).a = .own 54 73) → evL T ext c35_1 s k = some r := by
  intro n
  induction n with
  | zero =>
    intro i acc hi hacc hf s e7 hK e6 a6
    obtain rfl : i = S.cut.length := by omega
    obtain ⟨e2, e3, e4, e5, m2, m3, m4, m5⟩ := hK
    refine evL_intro ?_
    simp only [stC, List.map_cons, List.map_nil] at m2
    simp [c35_1, e_ob2, frz_free, frz_map, AV.frz, AV.frz0, kill_free, kill_map, AV.kill, AV.kill0, killE_at, killM_at, Slot.kill_v, Slot.kill_a, Slot.kill_mk, m_kill, m_kill0, e_rn, -Option.bind_some, ↓bind_some2, putE_at, setM_at, setO_at, stripE_at, stripM_at, Slot.strip_v, Slot.strip_a, Slot.strip_mk, An.strip, argE_at, noM_at, objE_at, m_init, m_put, m_put0, m_row, m_obj, m_strip, m_stripA, m_stripX, ↓seqK_nrm, ↓seqK_exit, ↓seqK_ret, ↓regK_at, ↓blkK_nrm, ↓blkK_exit, ↓blkK_ret, ↓condC_true, ↓condC_false, ↓guardC_bool, ↓guardC_tup, ↓r_skip, ↓r_seq, ↓r_reg, ↓r_cond, ↓r_block, ↓r_loop, ↓r_exit, ↓r_ret, ↓a_nrm, ↓a_exit, ↓a_ret, ↓o_nil, ↓o_cons, ↓s_plain, ↓s_guard, e_none, e_set, e_newp, e_newr, e_app, e_obj, e_mk, K.run, Opd.get, setRowC, AV.leaf, AV.whole, AV.cells, binC, mmC, eqC, natOf, loadC, loadI, Cl.okPtr, Cl.okMem, fillC, fin, finV, objAt, unname, resC, AV.free, AV.free0, AV.back, AV.backN, AV.isObj, AV.named, pack, lendAll, lend, objsOf, endC, AV.elems, Opd.an, zeroAn, elsOk_nil, elsOk_cons, elsOk_append, elsOk_map, elsOk_take, elsOk_drop, take_map_len, List.range_succ, List.range_zero, List.nil_append, List.cons_append, e7, e2, m2]
    simp only [List.drop_length, List.filter_nil, List.append_nil] at hf
    subst hf
    refine hk _ ⟨?_, ?_, ?_, ?_, ?_, ?_, ?_, ?_⟩ ?_ ?_ <;> simp [*, stC]
  | succ n ih =>
    intro i acc hi hacc hf s e7 hK e6 a6
    have hlt : i < S.cut.length := by omega
    have hw : IntKind.i64.wrap ((i : Int) + 1) = ((i + 1 : Nat) : Int) := by rw [IntWalk.i64_in _ (by omega)]; rfl
    rw [List.drop_eq_getElem_cons hlt, List.filter_cons] at hf
    obtain ⟨e2, e3, e4, e5, m2, m3, m4, m5⟩ := hK
    have hp := pair_ev (ext := ext) hT o.a o.b
    simp only [stC, List.map_cons, List.map_nil] at m2
    simp only [opC, List.map_cons, List.map_nil] at m3
    simp only [cutP] at hp
    refine evL_intro ?_
    have hstep : ∀ (acc' : List (Int × Int)), (S.cut[i] ≠ pairOf o.a o.b → acc' = acc ++ [S.cut[i]]) → (S.cut[i] = pairOf o.a o.b → acc' = acc) → acc' ++ (S.cut.drop (i + 1)).filter (fun c => c != pairOf o.a o.b) = S.cut.filter (fun c => c != pairOf o.a o.b) := fun acc' h1 h2 => by
      by_cases h : S.cut[i] = pairOf o.a o.b
      · rw [h2 h, ← hf]; simp [h]
      · rw [h1 h, ← hf]; simp [h]
    by_cases h : S.cut[i] = pairOf o.a o.b
    · have h1 : (S.cut[i]).1 = (pairOf o.a o.b).1 := by rw [h]
      have h2 : (S.cut[i]).2 = (pairOf o.a o.b).2 := by rw [h]
      simp [c35_1, e_ob2, frz_free, frz_map, AV.frz, AV.frz0, kill_free, kill_map, AV.kill, AV.kill0, killE_at, killM_at, Slot.kill_v, Slot.kill_a, Slot.kill_mk, m_kill, m_kill0, e_rn, -Option.bind_some, ↓bind_some2, putE_at, setM_at, setO_at, stripE_at, stripM_at, Slot.strip_v, Slot.strip_a, Slot.strip_mk, An.strip, argE_at, noM_at, objE_at, m_init, m_put, m_put0, m_row, m_obj, m_strip, m_stripA, m_stripX, ↓seqK_nrm, ↓seqK_exit, ↓seqK_ret, ↓regK_at, ↓blkK_nrm, ↓blkK_exit, ↓blkK_ret, ↓condC_true, ↓condC_false, ↓guardC_bool, ↓guardC_tup, ↓r_skip, ↓r_seq, ↓r_reg, ↓r_cond, ↓r_block, ↓r_loop, ↓r_exit, ↓r_ret, ↓a_nrm, ↓a_exit, ↓a_ret, ↓o_nil, ↓o_cons, ↓s_plain, ↓s_guard, e_none, e_set, e_newp, e_newr, e_app, e_obj, e_mk, K.run, Opd.get, setRowC, AV.leaf, AV.whole, AV.cells, binC, mmC, eqC, natOf, loadC, loadI, Cl.okPtr, Cl.okMem, fillC, fin, finV, objAt, unname, resC, AV.free, AV.free0, AV.back, AV.backN, AV.isObj, AV.named, pack, lendAll, lend, objsOf, endC, AV.elems, Opd.an, zeroAn, elsOk_nil, elsOk_cons, elsOk_append, elsOk_map, elsOk_take, elsOk_drop, take_map_len, List.range_succ, List.range_zero, List.nil_append, List.cons_append, e7, e3, e2, e4, e5, m2, m3, hlt, cutP, hp, h1, h2, hw]
      refine ih (i + 1) acc (by omega) (by omega) (hstep acc (fun hn => absurd h hn) (fun _ => rfl)) _ ?_ ⟨?_, ?_, ?_, ?_, ?_, ?_, ?_, ?_⟩ ?_ ?_ <;> simp [*, stC, opC]
    · have hq : eqC [0, 0] (cutP S.cut[i]) (cutP (pairOf o.a o.b)) = some false := by
        by_cases h1 : (S.cut[i]).1 = (pairOf o.a o.b).1
        · by_cases h2 : (S.cut[i]).2 = (pairOf o.a o.b).2
          · exact absurd (Prod.ext h1 h2) h
          · simp [eqC, cutP, h1, h2]
        · simp [eqC, cutP, h1]
      simp only [cutP] at hq
      have h8 : roomOk 16 (acc.length + 1) = true := roomOk_iff.2 ⟨by omega, by omega⟩
      rcases a6 with a6 | a6
      all_goals
        simp [c35_1, e_ob2, frz_free, frz_map, AV.frz, AV.frz0, kill_free, kill_map, AV.kill, AV.kill0, killE_at, killM_at, Slot.kill_v, Slot.kill_a, Slot.kill_mk, m_kill, m_kill0, e_rn, -Option.bind_some, ↓bind_some2, putE_at, setM_at, setO_at, stripE_at, stripM_at, Slot.strip_v, Slot.strip_a, Slot.strip_mk, An.strip, argE_at, noM_at, objE_at, m_init, m_put, m_put0, m_row, m_obj, m_strip, m_stripA, m_stripX, ↓seqK_nrm, ↓seqK_exit, ↓seqK_ret, ↓regK_at, ↓blkK_nrm, ↓blkK_exit, ↓blkK_ret, ↓condC_true, ↓condC_false, ↓guardC_bool, ↓guardC_tup, ↓r_skip, ↓r_seq, ↓r_reg, ↓r_cond, ↓r_block, ↓r_loop, ↓r_exit, ↓r_ret, ↓a_nrm, ↓a_exit, ↓a_ret, ↓o_nil, ↓o_cons, ↓s_plain, ↓s_guard, e_none, e_set, e_newp, e_newr, e_app, e_obj, e_mk, K.run, Opd.get, setRowC, AV.leaf, AV.whole, AV.cells, binC, mmC, eqC, natOf, loadC, loadI, Cl.okPtr, Cl.okMem, fillC, fin, finV, objAt, unname, resC, AV.free, AV.free0, AV.back, AV.backN, AV.isObj, AV.named, pack, lendAll, lend, objsOf, endC, AV.elems, Opd.an, zeroAn, elsOk_nil, elsOk_cons, elsOk_append, elsOk_map, elsOk_take, elsOk_drop, take_map_len, List.range_succ, List.range_zero, List.nil_append, List.cons_append, e7, e3, e2, e4, e5, m2, m3, hlt, cutP, hp, hq, hw, e6, a6, h8, els_cut]
        refine ih (i + 1) (acc ++ [S.cut[i]]) (by omega) (by simp; omega) (hstep _ (fun _ => rfl) (fun hn => absurd hn h)) _ ?_ ⟨?_, ?_, ?_, ?_, ?_, ?_, ?_, ?_⟩ ?_ ?_ <;> simp [*, stC, opC, cutP, Slot.strip_v, Slot.strip_mk, An.strip]
theorem cut_rev (hT : T 45 = some c45) (hT1 : T 33 = some c33) (hT2 : T 35 = some c35) (b1 b2 : Bool) (S : St) (o : Op) (hlen : S.cut.length ≤ 1000) :
    ∃ b, evC T ext 35 [stA b1 b2 S, .agg (opC o)] none = some (.tup [stA b1 b (S.doCut o).1, resA (S.doCut o).2], none) := by
  have n1 := node_ev (ext := ext) hT1 b1 b2 S o.a
  have n2 := node_ev (ext := ext) hT1 b1 b2 S o.b
  simp only [stA, stC] at n1 n2
  have bad : ¬ (S.node o.a = true ∧ S.node o.b = true ∧ o.a ≠ o.b) → evC T ext 35 [stA b1 b2 S, .agg (opC o)] none = some (.tup [stA b1 b2 S, resA (errR 7)], none) := fun hn => by
    refine evC_intro c35 hT2 rfl ?_
    by_cases ha : S.node o.a = true
    · by_cases hb : S.node o.b = true
      · have hab : o.a = o.b := Classical.byContradiction fun h => hn ⟨ha, hb, h⟩
        rw [ha] at n1; rw [hb] at n2
        rw [hab] at n1
        simp [c35, e_ob2, frz_free, frz_map, AV.frz, AV.frz0, kill_free, kill_map, AV.kill, AV.kill0, killE_at, killM_at, Slot.kill_v, Slot.kill_a, Slot.kill_mk, m_kill, m_kill0, e_rn, -Option.bind_some, ↓bind_some2, putE_at, setM_at, setO_at, stripE_at, stripM_at, Slot.strip_v, Slot.strip_a, Slot.strip_mk, An.strip, argE_at, noM_at, objE_at, m_init, m_put, m_put0, m_row, m_obj, m_strip, m_stripA, m_stripX, ↓seqK_nrm, ↓seqK_exit, ↓seqK_ret, ↓regK_at, ↓blkK_nrm, ↓blkK_exit, ↓blkK_ret, ↓condC_true, ↓condC_false, ↓guardC_bool, ↓guardC_tup, ↓r_skip, ↓r_seq, ↓r_reg, ↓r_cond, ↓r_block, ↓r_loop, ↓r_exit, ↓r_ret, ↓a_nrm, ↓a_exit, ↓a_ret, ↓o_nil, ↓o_cons, ↓s_plain, ↓s_guard, e_none, e_set, e_newp, e_newr, e_app, e_obj, e_mk, K.run, Opd.get, setRowC, AV.leaf, AV.whole, AV.cells, binC, mmC, eqC, natOf, loadC, loadI, Cl.okPtr, Cl.okMem, fillC, fin, finV, objAt, unname, resC, AV.free, AV.free0, AV.back, AV.backN, AV.isObj, AV.named, pack, lendAll, lend, objsOf, endC, AV.elems, Opd.an, zeroAn, elsOk_nil, elsOk_cons, elsOk_append, elsOk_map, elsOk_take, elsOk_drop, take_map_len, List.range_succ, List.range_zero, List.nil_append, List.cons_append, stA, stC, opC, n1, n2, hab]
        rfl
      · rw [ha] at n1; rw [Bool.not_eq_true] at hb; rw [hb] at n2
        simp [c35, e_ob2, frz_free, frz_map, AV.frz, AV.frz0, kill_free, kill_map, AV.kill, AV.kill0, killE_at, killM_at, Slot.kill_v, Slot.kill_a, Slot.kill_mk, m_kill, m_kill0, e_rn, -Option.bind_some, ↓bind_some2, putE_at, setM_at, setO_at, stripE_at, stripM_at, Slot.strip_v, Slot.strip_a, Slot.strip_mk, An.strip, argE_at, noM_at, objE_at, m_init, m_put, m_put0, m_row, m_obj, m_strip, m_stripA, m_stripX, ↓seqK_nrm, ↓seqK_exit, ↓seqK_ret, ↓regK_at, ↓blkK_nrm, ↓blkK_exit, ↓blkK_ret, ↓condC_true, ↓condC_false, ↓guardC_bool, ↓guardC_tup, ↓r_skip, ↓r_seq, ↓r_reg, ↓r_cond, ↓r_block, ↓r_loop, ↓r_exit, ↓r_ret, ↓a_nrm, ↓a_exit, ↓a_ret, ↓o_nil, ↓o_cons, ↓s_plain, ↓s_guard, e_none, e_set, e_newp, e_newr, e_app, e_obj, e_mk, K.run, Opd.get, setRowC, AV.leaf, AV.whole, AV.cells, binC, mmC, eqC, natOf, loadC, loadI, Cl.okPtr, Cl.okMem, fillC, fin, finV, objAt, unname, resC, AV.free, AV.free0, AV.back, AV.backN, AV.isObj, AV.named, pack, lendAll, lend, objsOf, endC, AV.elems, Opd.an, zeroAn, elsOk_nil, elsOk_cons, elsOk_append, elsOk_map, elsOk_take, elsOk_drop, take_map_len, List.range_succ, List.range_zero, List.nil_append, List.cons_append, stA, stC, opC, n1, n2]
        rfl
    · rw [Bool.not_eq_true] at ha; rw [ha] at n1
      simp [c35, e_ob2, frz_free, frz_map, AV.frz, AV.frz0, kill_free, kill_map, AV.kill, AV.kill0, killE_at, killM_at, Slot.kill_v, Slot.kill_a, Slot.kill_mk, m_kill, m_kill0, e_rn, -Option.bind_some, ↓bind_some2, putE_at, setM_at, setO_at, stripE_at, stripM_at, Slot.strip_v, Slot.strip_a, Slot.strip_mk, An.strip, argE_at, noM_at, objE_at, m_init, m_put, m_put0, m_row, m_obj, m_strip, m_stripA, m_stripX, ↓seqK_nrm, ↓seqK_exit, ↓seqK_ret, ↓regK_at, ↓blkK_nrm, ↓blkK_exit, ↓blkK_ret, ↓condC_true, ↓condC_false, ↓guardC_bool, ↓guardC_tup, ↓r_skip, ↓r_seq, ↓r_reg, ↓r_cond, ↓r_block, ↓r_loop, ↓r_exit, ↓r_ret, ↓a_nrm, ↓a_exit, ↓a_ret, ↓o_nil, ↓o_cons, ↓s_plain, ↓s_guard, e_none, e_set, e_newp, e_newr, e_app, e_obj, e_mk, K.run, Opd.get, setRowC, AV.leaf, AV.whole, AV.cells, binC, mmC, eqC, natOf, loadC, loadI, Cl.okPtr, Cl.okMem, fillC, fin, finV, objAt, unname, resC, AV.free, AV.free0, AV.back, AV.backN, AV.isObj, AV.named, pack, lendAll, lend, objsOf, endC, AV.elems, Opd.an, zeroAn, elsOk_nil, elsOk_cons, elsOk_append, elsOk_map, elsOk_take, elsOk_drop, take_map_len, List.range_succ, List.range_zero, List.nil_append, List.cons_append, stA, stC, opC, n1]
      rfl
  by_cases hc : S.node o.a = true ∧ S.node o.b = true ∧ o.a ≠ o.b
  · obtain ⟨ha, hb, hab⟩ := hc
    have e : S.doCut o = ({ S with cut := S.cut.filter (fun c => c != pairOf o.a o.b) ++ (if o.cut then [pairOf o.a o.b] else []) }, zeroR) := by
      unfold St.doCut; rw [if_pos (by simp [ha, hb, hab])]
    rw [e]
    rw [ha] at n1; rw [hb] at n2
    have hp := pair_ev (ext := ext) hT o.a o.b
    simp only [cutP] at hp
    have hfl : (S.cut.filter (fun c => c != pairOf o.a o.b)).length ≤ 1000 := Nat.le_trans (List.length_filter_le ..) hlen
    have h8 : roomOk 16 ((S.cut.filter (fun c => c != pairOf o.a o.b)).length + 1) = true := roomOk_iff.2 ⟨by omega, by omega⟩
    have hl8 : ∀ (left : List (Int × Int)), left = S.cut.filter (fun c => c != pairOf o.a o.b) → ∃ b, evC T ext 35 [stA b1 b2 S, .agg (opC o)] none = some (.tup [stA b1 b { S with cut := left ++ (if o.cut then [pairOf o.a o.b] else []) }, resA zeroR], none) := fun left hleft => by
      rw [← hleft] at h8
      have hkk := cut_lp (T := T) (ext := ext) hT b1 b2 S o hlen
      rw [← hleft] at hkk
      cases hcut : o.cut with
      | true =>
        refine ⟨false, evC_intro c35 hT2 rfl ?_⟩
        simp [c35, e_ob2, frz_free, frz_map, AV.frz, AV.frz0, kill_free, kill_map, AV.kill, AV.kill0, killE_at, killM_at, Slot.kill_v, Slot.kill_a, Slot.kill_mk, m_kill, m_kill0, e_rn, -Option.bind_some, ↓bind_some2, putE_at, setM_at, setO_at, stripE_at, stripM_at, Slot.strip_v, Slot.strip_a, Slot.strip_mk, An.strip, argE_at, noM_at, objE_at, m_init, m_put, m_put0, m_row, m_obj, m_strip, m_stripA, m_stripX, ↓seqK_nrm, ↓seqK_exit, ↓seqK_ret, ↓regK_at, ↓blkK_nrm, ↓blkK_exit, ↓blkK_ret, ↓condC_true, ↓condC_false, ↓guardC_bool, ↓guardC_tup, ↓r_skip, ↓r_seq, ↓r_reg, ↓r_cond, ↓r_block, ↓r_loop, ↓r_exit, ↓r_ret, ↓a_nrm, ↓a_exit, ↓a_ret, ↓o_nil, ↓o_cons, ↓s_plain, ↓s_guard, e_none, e_set, e_newp, e_newr, e_app, e_obj, e_mk, K.run, Opd.get, setRowC, AV.leaf, AV.whole, AV.cells, binC, mmC, eqC, natOf, loadC, loadI, Cl.okPtr, Cl.okMem, fillC, fin, finV, objAt, unname, resC, AV.free, AV.free0, AV.back, AV.backN, AV.isObj, AV.named, pack, lendAll, lend, objsOf, endC, AV.elems, Opd.an, zeroAn, elsOk_nil, elsOk_cons, elsOk_append, elsOk_map, elsOk_take, elsOk_drop, take_map_len, List.range_succ, List.range_zero, List.nil_append, List.cons_append, stA, stC, opC, n1, n2, hab]
        refine hkk _ _ (fun s hK e6 a6 => ?main) S.cut.length 0 [] (by simp) (by simp) (by simp [hleft]) _ ?_ ⟨?_, ?_, ?_, ?_, ?_, ?_, ?_, ?_⟩ ?_ ?_
        case main =>
          obtain ⟨e2, e3, e4, e5, m2, m3, m4, m5⟩ := hK
          simp only [stC, List.map_cons, List.map_nil] at m2
          simp only [opC, List.map_cons, List.map_nil] at m3
          rcases a6 with a6 | a6
          all_goals
            simp [e_ob2, frz_free, frz_map, AV.frz, AV.frz0, kill_free, kill_map, AV.kill, AV.kill0, killE_at, killM_at, Slot.kill_v, Slot.kill_a, Slot.kill_mk, m_kill, m_kill0, e_rn, -Option.bind_some, ↓bind_some2, putE_at, setM_at, setO_at, stripE_at, stripM_at, Slot.strip_v, Slot.strip_a, Slot.strip_mk, An.strip, argE_at, noM_at, objE_at, m_init, m_put, m_put0, m_row, m_obj, m_strip, m_stripA, m_stripX, ↓seqK_nrm, ↓seqK_exit, ↓seqK_ret, ↓regK_at, ↓blkK_nrm, ↓blkK_exit, ↓blkK_ret, ↓condC_true, ↓condC_false, ↓guardC_bool, ↓guardC_tup, ↓r_skip, ↓r_seq, ↓r_reg, ↓r_cond, ↓r_block, ↓r_loop, ↓r_exit, ↓r_ret, ↓a_nrm, ↓a_exit, ↓a_ret, ↓o_nil, ↓o_cons, ↓s_plain, ↓s_guard, e_none, e_set, e_newp, e_newr, e_app, e_obj, e_mk, K.run, Opd.get, setRowC, AV.leaf, AV.whole, AV.cells, binC, mmC, eqC, natOf, loadC, loadI, Cl.okPtr, Cl.okMem, fillC, fin, finV, objAt, unname, resC, AV.free, AV.free0, AV.back, AV.backN, AV.isObj, AV.named, pack, lendAll, lend, objsOf, endC, AV.elems, Opd.an, zeroAn, elsOk_nil, elsOk_cons, elsOk_append, elsOk_map, elsOk_take, elsOk_drop, take_map_len, List.range_succ, List.range_zero, List.nil_append, List.cons_append, stC, opC, e2, e3, e4, e5, m2, m3, m4, m5, e6, a6, hcut, hp, h8, els_cut]
            exact ⟨rfl, rfl⟩
        all_goals simp [opsA, stC, opC]
      | false =>
        refine ⟨left.isEmpty, evC_intro c35 hT2 rfl ?_⟩
        simp [c35, e_ob2, frz_free, frz_map, AV.frz, AV.frz0, kill_free, kill_map, AV.kill, AV.kill0, killE_at, killM_at, Slot.kill_v, Slot.kill_a, Slot.kill_mk, m_kill, m_kill0, e_rn, -Option.bind_some, ↓bind_some2, putE_at, setM_at, setO_at, stripE_at, stripM_at, Slot.strip_v, Slot.strip_a, Slot.strip_mk, An.strip, argE_at, noM_at, objE_at, m_init, m_put, m_put0, m_row, m_obj, m_strip, m_stripA, m_stripX, ↓seqK_nrm, ↓seqK_exit, ↓seqK_ret, ↓regK_at, ↓blkK_nrm, ↓blkK_exit, ↓blkK_ret, ↓condC_true, ↓condC_false, ↓guardC_bool, ↓guardC_tup, ↓r_skip, ↓r_seq, ↓r_reg, ↓r_cond, ↓r_block, ↓r_loop, ↓r_exit, ↓r_ret, ↓a_nrm, ↓a_exit, ↓a_ret, ↓o_nil, ↓o_cons, ↓s_plain, ↓s_guard, e_none, e_set, e_newp, e_newr, e_app, e_obj, e_mk, K.run, Opd.get, setRowC, AV.leaf, AV.whole, AV.cells, binC, mmC, eqC, natOf, loadC, loadI, Cl.okPtr, Cl.okMem, fillC, fin, finV, objAt, unname, resC, AV.free, AV.free0, AV.back, AV.backN, AV.isObj, AV.named, pack, lendAll, lend, objsOf, endC, AV.elems, Opd.an, zeroAn, elsOk_nil, elsOk_cons, elsOk_append, elsOk_map, elsOk_take, elsOk_drop, take_map_len, List.range_succ, List.range_zero, List.nil_append, List.cons_append, stA, stC, opC, n1, n2, hab]
        refine hkk _ _ (fun s hK e6 a6 => ?main) S.cut.length 0 [] (by simp) (by simp) (by simp [hleft]) _ ?_ ⟨?_, ?_, ?_, ?_, ?_, ?_, ?_, ?_⟩ ?_ ?_
        case main =>
          obtain ⟨e2, e3, e4, e5, m2, m3, m4, m5⟩ := hK
          simp only [stC, List.map_cons, List.map_nil] at m2
          simp only [opC, List.map_cons, List.map_nil] at m3
          rcases a6 with a6 | a6
          all_goals
            simp [e_ob2, frz_free, frz_map, AV.frz, AV.frz0, kill_free, kill_map, AV.kill, AV.kill0, killE_at, killM_at, Slot.kill_v, Slot.kill_a, Slot.kill_mk, m_kill, m_kill0, e_rn, -Option.bind_some, ↓bind_some2, putE_at, setM_at, setO_at, stripE_at, stripM_at, Slot.strip_v, Slot.strip_a, Slot.strip_mk, An.strip, argE_at, noM_at, objE_at, m_init, m_put, m_put0, m_row, m_obj, m_strip, m_stripA, m_stripX, ↓seqK_nrm, ↓seqK_exit, ↓seqK_ret, ↓regK_at, ↓blkK_nrm, ↓blkK_exit, ↓blkK_ret, ↓condC_true, ↓condC_false, ↓guardC_bool, ↓guardC_tup, ↓r_skip, ↓r_seq, ↓r_reg, ↓r_cond, ↓r_block, ↓r_loop, ↓r_exit, ↓r_ret, ↓a_nrm, ↓a_exit, ↓a_ret, ↓o_nil, ↓o_cons, ↓s_plain, ↓s_guard, e_none, e_set, e_newp, e_newr, e_app, e_obj, e_mk, K.run, Opd.get, setRowC, AV.leaf, AV.whole, AV.cells, binC, mmC, eqC, natOf, loadC, loadI, Cl.okPtr, Cl.okMem, fillC, fin, finV, objAt, unname, resC, AV.free, AV.free0, AV.back, AV.backN, AV.isObj, AV.named, pack, lendAll, lend, objsOf, endC, AV.elems, Opd.an, zeroAn, elsOk_nil, elsOk_cons, elsOk_append, elsOk_map, elsOk_take, elsOk_drop, take_map_len, List.range_succ, List.range_zero, List.nil_append, List.cons_append, stC, opC, e2, e3, e4, e5, m2, m3, m4, m5, e6, a6, hcut, hp, h8, els_cut]
            rfl
        all_goals simp [opsA, stC, opC]
    exact hl8 _ rfl
  · refine ⟨b2, ?_⟩
    have e : S.doCut o = (S, errR 7) := by
      unfold St.doCut; rw [if_neg]
      simp only [Bool.and_eq_true, Bool.not_eq_true', decide_eq_false_iff_not]
      exact fun h => hc ⟨h.1.1, h.1.2, h.2⟩
    rw [e]
    exact bad hc

structure KRdy (b1 b2 : Bool) (S : St) (s : MSt) : Prop where
  e1 : (s.env 1).v = .ptr 1 1 0
  m1 : s.mem 1 1 = some ((stC b1 b2 S).map (⟨·, .no⟩))
def St.rdy (S : St) : List Pkt := S.l.filter fun p => !S.isCut p.src p.dst
theorem rdy_lp (hT : T 45 = some c45) (hT' : T 36 = some c36) (b1 b2 : Bool) (S : St) (hlen : S.l.length ≤ 1000) (hcl : S.cut.length ≤ 1000) (r : RV) (k : Ex → MSt → Option RV)
    (hk : ∀ (s : MSt), KRdy b1 b2 S s → (s.env 3).v = .sl S.rdy.isEmpty (S.rdy.map Pkt.cv) → k (.exit 0) s = some r) :
    ∀ (n i : Nat) (acc : List Pkt), i + n = S.l.length → acc.length ≤ i → acc ++ (S.l.drop i).filter (fun p => !S.isCut p.src p.dst) = S.rdy → ∀ s : MSt, (s.env 4).v = .int .i64 i → KRdy b1 b2 S s → (s.env 3).v = .sl acc.isEmpty (acc.map Pkt.cv) → ((s.env 3).a = .ex ∨ (s.env 3).a = .own 34 42) → evL T ext c38_1 s k = some r := by
  intro n
  induction n with
  | zero =>
    intro i acc hi hacc hf s e4 hK e3 a3
    obtain rfl : i = S.l.length := by omega
    obtain ⟨e1, m1⟩ := hK
    refine evL_intro ?_
    simp only [stC, List.map_cons, List.map_nil] at m1
    simp [c38_1, e_ob2, frz_free, frz_map, AV.frz, AV.frz0, kill_free, kill_map, AV.kill, AV.kill0, killE_at, killM_at, Slot.kill_v, Slot.kill_a, Slot.kill_mk, m_kill, m_kill0, e_rn, -Option.bind_some, ↓bind_some2, putE_at, setM_at, setO_at, stripE_at, stripM_at, Slot.strip_v, Slot.strip_a, Slot.strip_mk, An.strip, argE_at, noM_at, objE_at, m_init, m_put, m_put0, m_row, m_obj, m_strip, m_stripA, m_stripX, ↓seqK_nrm, ↓seqK_exit, ↓seqK_ret, ↓regK_at, ↓blkK_nrm, ↓blkK_exit, ↓blkK_ret, ↓condC_true, ↓condC_false, ↓guardC_bool, ↓guardC_tup, ↓r_skip, ↓r_seq, ↓r_reg, ↓r_cond, ↓r_block, ↓r_loop, ↓r_exit, ↓r_ret, ↓a_nrm, ↓a_exit, ↓a_ret, ↓o_nil, ↓o_cons, ↓s_plain, ↓s_guard, e_none, e_set, e_newp, e_newr, e_app, e_obj, e_mk, K.run, Opd.get, setRowC, AV.leaf, AV.whole, AV.cells, binC, mmC, eqC, natOf, loadC, loadI, Cl.okPtr, Cl.okMem, fillC, fin, finV, objAt, unname, resC, AV.free, AV.free0, AV.back, AV.backN, AV.isObj, AV.named, pack, lendAll, lend, objsOf, endC, AV.elems, Opd.an, zeroAn, elsOk_nil, elsOk_cons, elsOk_append, elsOk_map, elsOk_take, elsOk_drop, take_map_len, List.range_succ, List.range_zero, List.nil_append, List.cons_append, e4, e1, m1]
    simp only [List.drop_length, List.filter_nil, List.append_nil] at hf
    subst hf
    refine hk _ ⟨?_, ?_⟩ ?_ <;> simp [*, stC]
  | succ n ih =>
    intro i acc hi hacc hf s e4 hK e3 a3
    have hlt : i < S.l.length := by omega
    have hw : IntKind.i64.wrap ((i : Int) + 1) = ((i + 1 : Nat) : Int) := by rw [IntWalk.i64_in _ (by omega)]; rfl
    rw [List.drop_eq_getElem_cons hlt, List.filter_cons] at hf
    obtain ⟨e1, m1⟩ := hK
    have hp := iscut_ev (ext := ext) hT hT' b1 b2 S (S.l[i]).src (S.l[i]).dst (by omega)
    simp only [stC, List.map_cons, List.map_nil] at m1
    simp only [stA, stC] at hp
    refine evL_intro ?_
    have hstep : ∀ (acc' : List Pkt), (S.isCut (S.l[i]).src (S.l[i]).dst = false → acc' = acc ++ [S.l[i]]) → (S.isCut (S.l[i]).src (S.l[i]).dst = true → acc' = acc) → acc' ++ (S.l.drop (i + 1)).filter (fun p => !S.isCut p.src p.dst) = S.rdy := fun acc' h1 h2 => by
      cases h : S.isCut (S.l[i]).src (S.l[i]).dst with
      | true => rw [h2 h, ← hf]; simp [h]
      | false => rw [h1 h, ← hf]; simp [h]
    cases h : S.isCut (S.l[i]).src (S.l[i]).dst with
    | true =>
      rw [h] at hp hstep
      simp [c38_1, e_ob2, frz_free, frz_map, AV.frz, AV.frz0, kill_free, kill_map, AV.kill, AV.kill0, killE_at, killM_at, Slot.kill_v, Slot.kill_a, Slot.kill_mk, m_kill, m_kill0, e_rn, -Option.bind_some, ↓bind_some2, putE_at, setM_at, setO_at, stripE_at, stripM_at, Slot.strip_v, Slot.strip_a, Slot.strip_mk, An.strip, argE_at, noM_at, objE_at, m_init, m_put, m_put0, m_row, m_obj, m_strip, m_stripA, m_stripX, ↓seqK_nrm, ↓seqK_exit, ↓seqK_ret, ↓regK_at, ↓blkK_nrm, ↓blkK_exit, ↓blkK_ret, ↓condC_true, ↓condC_false, ↓guardC_bool, ↓guardC_tup, ↓r_skip, ↓r_seq, ↓r_reg, ↓r_cond, ↓r_block, ↓r_loop, ↓r_exit, ↓r_ret, ↓a_nrm, ↓a_exit, ↓a_ret, ↓o_nil, ↓o_cons, ↓s_plain, ↓s_guard, e_none, e_set, e_newp, e_newr, e_app, e_obj, e_mk, K.run, Opd.get, setRowC, AV.leaf, AV.whole, AV.cells, binC, mmC, eqC, natOf, loadC, loadI, Cl.okPtr, Cl.okMem, fillC, fin, finV, objAt, unname, resC, AV.free, AV.free0, AV.back, AV.backN, AV.isObj, AV.named, pack, lendAll, lend, objsOf, endC, AV.elems, Opd.an, zeroAn, elsOk_nil, elsOk_cons, elsOk_append, elsOk_map, elsOk_take, elsOk_drop, take_map_len, List.range_succ, List.range_zero, List.nil_append, List.cons_append, e4, e1, m1, hlt, Pkt.cv, hp, hw]
      refine ih (i + 1) acc (by omega) (by omega) (hstep acc (fun hn => by cases hn) (fun _ => rfl)) _ ?_ ⟨?_, ?_⟩ ?_ ?_ <;> simp [*, stC]
    | false =>
      rw [h] at hp hstep
      have h8 : roomOk 40 (acc.length + 1) = true := roomOk_iff.2 ⟨by omega, by omega⟩
      rcases a3 with a3 | a3
      all_goals
        simp [c38_1, e_ob2, frz_free, frz_map, AV.frz, AV.frz0, kill_free, kill_map, AV.kill, AV.kill0, killE_at, killM_at, Slot.kill_v, Slot.kill_a, Slot.kill_mk, m_kill, m_kill0, e_rn, -Option.bind_some, ↓bind_some2, putE_at, setM_at, setO_at, stripE_at, stripM_at, Slot.strip_v, Slot.strip_a, Slot.strip_mk, An.strip, argE_at, noM_at, objE_at, m_init, m_put, m_put0, m_row, m_obj, m_strip, m_stripA, m_stripX, ↓seqK_nrm, ↓seqK_exit, ↓seqK_ret, ↓regK_at, ↓blkK_nrm, ↓blkK_exit, ↓blkK_ret, ↓condC_true, ↓condC_false, ↓guardC_bool, ↓guardC_tup, ↓r_skip, ↓r_seq, ↓r_reg, ↓r_cond, ↓r_block, ↓r_loop, ↓r_exit, ↓r_ret, ↓a_nrm, ↓a_exit, ↓a_ret, ↓o_nil, ↓o_cons, ↓s_plain, ↓s_guard, e_none, e_set, e_newp, e_newr, e_app, e_obj, e_mk, K.run, Opd.get, setRowC, AV.leaf, AV.whole, AV.cells, binC, mmC, eqC, natOf, loadC, loadI, Cl.okPtr, Cl.okMem, fillC, fin, finV, objAt, unname, resC, AV.free, AV.free0, AV.back, AV.backN, AV.isObj, AV.named, pack, lendAll, lend, objsOf, endC, AV.elems, Opd.an, zeroAn, elsOk_nil, elsOk_cons, elsOk_append, elsOk_map, elsOk_take, elsOk_drop, take_map_len, List.range_succ, List.range_zero, List.nil_append, List.cons_append, e4, e3, e1, a3, m1, hlt, Pkt.cv, hp, hw, h8, els_pk]
        refine ih (i + 1) (acc ++ [S.l[i]]) (by omega) (by simp; omega) (hstep _ (fun _ => rfl) (fun hn => by cases hn)) _ ?_ ⟨?_, ?_⟩ ?_ ?_ <;> simp [*, stC, Pkt.cv, An.strip]
theorem rready_ev (hT : T 45 = some c45) (hT' : T 36 = some c36) (hT2 : T 38 = some c38) (b1 b2 : Bool) (S : St) (hlen : S.l.length ≤ 1000) (hcl : S.cut.length ≤ 1000) :
    evC T ext 38 [stA b1 b2 S] none = some (.sl S.rdy.isEmpty (S.rdy.map Pkt.cv), none) := by
  refine evC_intro c38 hT2 rfl ?_
  simp [c38, e_ob2, frz_free, frz_map, AV.frz, AV.frz0, kill_free, kill_map, AV.kill, AV.kill0, killE_at, killM_at, Slot.kill_v, Slot.kill_a, Slot.kill_mk, m_kill, m_kill0, e_rn, -Option.bind_some, ↓bind_some2, putE_at, setM_at, setO_at, stripE_at, stripM_at, Slot.strip_v, Slot.strip_a, Slot.strip_mk, An.strip, argE_at, noM_at, objE_at, m_init, m_put, m_put0, m_row, m_obj, m_strip, m_stripA, m_stripX, ↓seqK_nrm, ↓seqK_exit, ↓seqK_ret, ↓regK_at, ↓blkK_nrm, ↓blkK_exit, ↓blkK_ret, ↓condC_true, ↓condC_false, ↓guardC_bool, ↓guardC_tup, ↓r_skip, ↓r_seq, ↓r_reg, ↓r_cond, ↓r_block, ↓r_loop, ↓r_exit, ↓r_ret, ↓a_nrm, ↓a_exit, ↓a_ret, ↓o_nil, ↓o_cons, ↓s_plain, ↓s_guard, e_none, e_set, e_newp, e_newr, e_app, e_obj, e_mk, K.run, Opd.get, setRowC, AV.leaf, AV.whole, AV.cells, binC, mmC, eqC, natOf, loadC, loadI, Cl.okPtr, Cl.okMem, fillC, fin, finV, objAt, unname, resC, AV.free, AV.free0, AV.back, AV.backN, AV.isObj, AV.named, pack, lendAll, lend, objsOf, endC, AV.elems, Opd.an, zeroAn, elsOk_nil, elsOk_cons, elsOk_append, elsOk_map, elsOk_take, elsOk_drop, take_map_len, List.range_succ, List.range_zero, List.nil_append, List.cons_append, stA, stC]
  refine rdy_lp hT hT' b1 b2 S hlen hcl _ _ (fun s hK e3 => ?main) S.l.length 0 [] (by simp) (by simp) (by simp [St.rdy]) _ ?_ ⟨?_, ?_⟩ ?_ ?_
  case main =>
    generalize S.rdy = R at e3
    simp [e_ob2, frz_free, frz_map, AV.frz, AV.frz0, kill_free, kill_map, AV.kill, AV.kill0, killE_at, killM_at, Slot.kill_v, Slot.kill_a, Slot.kill_mk, m_kill, m_kill0, e_rn, -Option.bind_some, ↓bind_some2, putE_at, setM_at, setO_at, stripE_at, stripM_at, Slot.strip_v, Slot.strip_a, Slot.strip_mk, An.strip, argE_at, noM_at, objE_at, m_init, m_put, m_put0, m_row, m_obj, m_strip, m_stripA, m_stripX, ↓seqK_nrm, ↓seqK_exit, ↓seqK_ret, ↓regK_at, ↓blkK_nrm, ↓blkK_exit, ↓blkK_ret, ↓condC_true, ↓condC_false, ↓guardC_bool, ↓guardC_tup, ↓r_skip, ↓r_seq, ↓r_reg, ↓r_cond, ↓r_block, ↓r_loop, ↓r_exit, ↓r_ret, ↓a_nrm, ↓a_exit, ↓a_ret, ↓o_nil, ↓o_cons, ↓s_plain, ↓s_guard, e_none, e_set, e_newp, e_newr, e_app, e_obj, e_mk, K.run, Opd.get, setRowC, AV.leaf, AV.whole, AV.cells, binC, mmC, eqC, natOf, loadC, loadI, Cl.okPtr, Cl.okMem, fillC, fin, finV, objAt, unname, resC, AV.free, AV.free0, AV.back, AV.backN, AV.isObj, AV.named, pack, lendAll, lend, objsOf, endC, AV.elems, Opd.an, zeroAn, elsOk_nil, elsOk_cons, elsOk_append, elsOk_map, elsOk_take, elsOk_drop, take_map_len, List.range_succ, List.range_zero, List.nil_append, List.cons_append, e3]
  all_goals simp [stC]

end
end Go.Proofs.Ytinpinjjdkilpaa
/- Same, on the machine. -/
namespace Go.Proofs.Ytinpinjjdkilpaa
open Go Go.RowKit
def c22_1 : C := .seq (.seq (.reg [⟨(.some 11), (.mv (.t 5)), .none⟩, ⟨(.some 12), (.mv (.t 0)), .none⟩, ⟨(.some 13), (.len .false (.t 12)), .none⟩, ⟨(.some 14), (.bin .lss .false (.t 11) (.t 13)), .none⟩]) (.cond (.t 14) .skip (.exit 0))) (.seq (.block 1 (.seq (.reg [⟨(.some 17), (.mv (.t 0)), .none⟩, ⟨(.some 18), (.mv (.t 5)), .none⟩, ⟨(.some 19), (.iaddr 4 (.t 17) (.t 18)), .none⟩, ⟨(.some 20), (.load .any .true 4 (.t 19)), .none⟩, ⟨(.some 21), (.mv (.t 1)), .none⟩, ⟨(.some 22), (.mv (.t 5)), .none⟩, ⟨(.some 23), (.iaddr 4 (.t 21) (.t 22)), .none⟩, ⟨(.some 24), (.load .any .true 4 (.t 23)), .none⟩, ⟨(.some 25), (.eqa .true [0, 0, 0, 1] (.t 20) (.t 24)), .none⟩]) (.cond (.t 25) (.seq (.reg [⟨(.some 4), (.mv (.c (.bool .false))), .none⟩]) .ret) .skip))) (.reg [⟨(.some 15), (.mv (.t 5)), .none⟩, ⟨(.some 16), (.bin .add .false (.t 15) (.c (.int .i64 1))), .none⟩, ⟨(.some 5), (.mv (.t 16)), .none⟩]))
def c22 : FnC := ⟨(.seq (.reg [⟨(.some 4), (.mv (.c (.bool .false))), .none⟩]) (.seq (.seq (.reg [⟨(.some 6), (.mv (.t 0)), .none⟩, ⟨(.some 7), (.len .false (.t 6)), .none⟩, ⟨(.some 8), (.mv (.t 1)), .none⟩, ⟨(.some 9), (.len .false (.t 8)), .none⟩, ⟨(.some 10), (.bin .neq .false (.t 7) (.t 9)), .none⟩]) (.cond (.t 10) (.seq (.reg [⟨(.some 4), (.mv (.c (.bool .false))), .none⟩]) .ret) .skip)) (.seq (.seq (.reg [⟨(.some 5), (.mv (.c (.int .i64 0))), .none⟩]) (.block 0 (.loop c22_1))) (.seq (.reg [⟨(.some 4), (.mv (.c (.bool .true))), .none⟩]) .ret)))), [(.tmp 4)], 2, []⟩
set_option maxRecDepth 10000
set_option linter.unusedSimpArgs false
section
variable {T : Nat → Option FnC} {ext : CallT}
theorem pkt_ext {p q : Pkt} : p = q ↔ p.id = q.id ∧ p.src = q.src ∧ p.dst = q.dst ∧ p.data = q.data := by
  obtain ⟨a, b, c, d⟩ := p
  obtain ⟨a', b', c', d'⟩ := q
  simp
theorem eqC_pkt (p q : Pkt) : eqC [0, 0, 0, 1] p.cv q.cv = some (decide (p = q)) := by
  by_cases h : p = q
  · subst h; simp [eqC, Pkt.cv]
  · simp only [h, decide_false]
    rw [pkt_ext] at h
    by_cases h1 : p.id = q.id <;> by_cases h2 : p.src = q.src <;> by_cases h3 : p.dst = q.dst <;> by_cases h4 : p.data = q.data <;> simp_all [eqC, Pkt.cv]
theorem same_lp (n1 n2 : Bool) (L M : List Pkt) (hl : L.length = M.length) (hlen : L.length ≤ 9223372036854775807) (r : RV) (k : Ex → MSt → Option RV) (hk : L = M → ∀ s, k (.exit 0) s = some r) (hr : L ≠ M → ∀ s : MSt, (s.env 4).v = .bool false → k .ret s = some r) :
    ∀ (n i : Nat), i + n = L.length → L.take i = M.take i → ∀ s : MSt, (s.env 5).v = .int .i64 i → (s.env 0).v = .sl n1 (L.map Pkt.cv) → (s.env 1).v = .sl n2 (M.map Pkt.cv) → evL T ext c22_1 s k = some r := by
  intro n
  induction n with
  | zero =>
    intro i hi ht s e5 e0 e1
    obtain rfl : i = L.length := by omega
    refine evL_intro ?_
    simp [c22_1, frz_free, frz_map, AV.frz, AV.frz0, C.run, runOps, OpC.step, OpC.eff, K.run, MSt.put, MSt.setObj, Opd.get, MSt.init, MSt.setRow, setRowC, AV.leaf, AV.whole, AV.cells, binC, mmC, eqC, natOf, loadC, loadI, Cl.okPtr, Cl.okMem, fillC, fin, finV, objAt, unname, resC, AV.free, AV.free0, AV.back, AV.backN, AV.isObj, AV.named, pack, lendAll, lend, objsOf, again, endC, AV.elems, MSt.stripA, MSt.strip, Slot.strip_v, Slot.strip_mk, An.strip, Opd.an, zeroAn, elsOk_nil, elsOk_cons, elsOk_append, elsOk_map, elsOk_take, elsOk_drop, e5, e0]
    refine hk ?_ _
    rw [List.take_length, hl, List.take_length] at ht
    exact ht
  | succ n ih =>
    intro i hi ht s e5 e0 e1
    have hlt : i < L.length := by omega
    have hlt' : i < M.length := by omega
    have hw : IntKind.i64.wrap ((i : Int) + 1) = ((i + 1 : Nat) : Int) := by rw [IntWalk.i64_in _ (by omega)]; rfl
    have hq := eqC_pkt L[i] M[i]
    simp only [Pkt.cv] at hq
    refine evL_intro ?_
    by_cases he : L[i] = M[i]
    · simp only [he, decide_true] at hq
      simp [c22_1, frz_free, frz_map, AV.frz, AV.frz0, C.run, runOps, OpC.step, OpC.eff, K.run, MSt.put, MSt.setObj, Opd.get, MSt.init, MSt.setRow, setRowC, AV.leaf, AV.whole, AV.cells, binC, mmC, eqC, natOf, loadC, loadI, Cl.okPtr, Cl.okMem, fillC, fin, finV, objAt, unname, resC, AV.free, AV.free0, AV.back, AV.backN, AV.isObj, AV.named, pack, lendAll, lend, objsOf, again, endC, AV.elems, MSt.stripA, MSt.strip, Slot.strip_v, Slot.strip_mk, An.strip, Opd.an, zeroAn, elsOk_nil, elsOk_cons, elsOk_append, elsOk_map, elsOk_take, elsOk_drop, e5, e0, e1, hlt, hlt', Pkt.cv, hq, he, hw]
      refine ih (i + 1) (by omega) ?_ _ ?_ ?_ ?_ <;> try (simp [e5, e0, e1, hw, Pkt.cv]; done)
      rw [List.take_succ_eq_append_getElem hlt, List.take_succ_eq_append_getElem hlt', ht, he]
    · simp only [he, decide_false] at hq
      have hne : L ≠ M := fun h => he (by subst h; rfl)
      simp [c22_1, frz_free, frz_map, AV.frz, AV.frz0, C.run, runOps, OpC.step, OpC.eff, K.run, MSt.put, MSt.setObj, Opd.get, MSt.init, MSt.setRow, setRowC, AV.leaf, AV.whole, AV.cells, binC, mmC, eqC, natOf, loadC, loadI, Cl.okPtr, Cl.okMem, fillC, fin, finV, objAt, unname, resC, AV.free, AV.free0, AV.back, AV.backN, AV.isObj, AV.named, pack, lendAll, lend, objsOf, again, endC, AV.elems, MSt.stripA, MSt.strip, Slot.strip_v, Slot.strip_mk, An.strip, Opd.an, zeroAn, elsOk_nil, elsOk_cons, elsOk_append, elsOk_map, elsOk_take, elsOk_drop, e5, e0, e1, hlt, hlt', Pkt.cv, hq, he, hw]
      exact hr hne _ (by simp)
theorem same_ev (hT : T 22 = some c22) (n1 n2 : Bool) (L M : List Pkt) (h1 : L.length ≤ 9223372036854775807) : evC T ext 22 [.sl n1 (L.map Pkt.cv), .sl n2 (M.map Pkt.cv)] none = some (.bool (decide (L = M)), none) := by
  refine evC_intro c22 hT rfl ?_
  by_cases hl : L.length = M.length
  · simp [c22, frz_free, frz_map, AV.frz, AV.frz0, C.run, runOps, OpC.step, OpC.eff, K.run, MSt.put, MSt.setObj, Opd.get, MSt.init, MSt.setRow, setRowC, AV.leaf, AV.whole, AV.cells, binC, mmC, eqC, natOf, loadC, loadI, Cl.okPtr, Cl.okMem, fillC, fin, finV, objAt, unname, resC, AV.free, AV.free0, AV.back, AV.backN, AV.isObj, AV.named, pack, lendAll, lend, objsOf, again, endC, AV.elems, MSt.stripA, MSt.strip, Slot.strip_v, Slot.strip_mk, An.strip, Opd.an, zeroAn, elsOk_nil, elsOk_cons, elsOk_append, elsOk_map, elsOk_take, elsOk_drop, hl]
    refine same_lp n1 n2 L M hl h1 _ _ (fun h s => ?_) (fun h s h4 => ?_) L.length 0 (by simp) rfl _ ?_ ?_ ?_ <;> simp [frz_free, frz_map, AV.frz, AV.frz0, C.run, runOps, OpC.step, OpC.eff, K.run, MSt.put, MSt.setObj, Opd.get, MSt.init, MSt.setRow, setRowC, AV.leaf, AV.whole, AV.cells, binC, mmC, eqC, natOf, loadC, loadI, Cl.okPtr, Cl.okMem, fillC, fin, finV, objAt, unname, resC, AV.free, AV.free0, AV.back, AV.backN, AV.isObj, AV.named, pack, lendAll, lend, objsOf, again, endC, AV.elems, MSt.stripA, MSt.strip, Slot.strip_v, Slot.strip_mk, An.strip, Opd.an, zeroAn, elsOk_nil, elsOk_cons, elsOk_append, elsOk_map, elsOk_take, elsOk_drop, *]
  · have hl' : ¬ (L.length : Int) = (M.length : Int) := by omega
    have hne : L ≠ M := fun h => hl (by rw [h])
    simp [c22, frz_free, frz_map, AV.frz, AV.frz0, C.run, runOps, OpC.step, OpC.eff, K.run, MSt.put, MSt.setObj, Opd.get, MSt.init, MSt.setRow, setRowC, AV.leaf, AV.whole, AV.cells, binC, mmC, eqC, natOf, loadC, loadI, Cl.okPtr, Cl.okMem, fillC, fin, finV, objAt, unname, resC, AV.free, AV.free0, AV.back, AV.backN, AV.isObj, AV.named, pack, lendAll, lend, objsOf, again, endC, AV.elems, MSt.stripA, MSt.strip, Slot.strip_v, Slot.strip_mk, An.strip, Opd.an, zeroAn, elsOk_nil, elsOk_cons, elsOk_append, elsOk_map, elsOk_take, elsOk_drop, hl, hl', hne]
end
end Go.Proofs.Ytinpinjjdkilpaa
/- What cutting and healing come to: the plain network. -/
namespace Go.Proofs.Ytinpinjjdkilpaa
/-- nodes in range; a link that is cut lies between two nodes, the lesser one first -/
structure Net.Ok (S : Net) : Prop where
  n : 1 ≤ S.n ∧ S.n ≤ 20
  nodes : ∀ p ∈ S.l, 0 ≤ p.src ∧ p.src < S.n ∧ 0 ≤ p.dst ∧ p.dst < S.n
  cuts : ∀ a b, getA S.cut (a, b) = some true → 0 ≤ a ∧ a < b ∧ b < S.n
theorem Net.Ok.new {n : Int} (h : 1 ≤ n ∧ n ≤ 20) : (newNet n).Ok := ⟨h, fun p hp => by simp [newNet] at hp, fun a b h => by simp [newNet, getA] at h⟩
theorem Net.Ok.sub {S : Net} (h : S.Ok) {l : List Pkt} (hs : ∀ p ∈ l, p ∈ S.l) : ({ S with l := l } : Net).Ok := ⟨h.n, fun p hp => h.nodes p (hs p hp), h.cuts⟩
theorem node_iff {S : Net} {a : Int} : S.node a = true ↔ 0 ≤ a ∧ a < S.n := by simp [Net.node]
theorem Net.Ok.put {S : Net} (h : S.Ok) {a b : Int} (d : ByteArray) (ha : 0 ≤ a ∧ a < S.n) (hb : 0 ≤ b ∧ b < S.n) : (S.put a b d).1.Ok := by
  unfold Net.put
  split
  · refine ⟨h.n, fun p hp => ?_, h.cuts⟩
    simp only [Net.sent, List.mem_append, List.mem_cons, List.not_mem_nil, or_false] at hp ⊢
    rcases hp with hp | rfl
    · exact h.nodes p hp
    · exact ⟨ha.1, ha.2, hb.1, hb.2⟩
  · exact h
theorem Net.Ok.setCut {S : Net} (h : S.Ok) (a b : Int) (c : Bool) : (S.setCut a b c).1.Ok := by
  unfold Net.setCut
  split
  · rename_i hc
    simp only [Bool.and_eq_true, Bool.not_eq_true', decide_eq_false_iff_not, node_iff] at hc
    refine ⟨h.n, h.nodes, fun x y hxy => ?_⟩
    simp only [getA_setA] at hxy
    split at hxy
    · rename_i e
      injection e with e1 e2
      subst e1; subst e2
      obtain ⟨h1, h2, h3⟩ := hc
      show 0 ≤ min a b ∧ min a b < max a b ∧ max a b < S.n
      omega
    · exact h.cuts x y hxy
  · exact h
theorem Net.exec_ok {S : Net} (h : S.Ok) (o : Op) : (S.exec o).1.Ok := by
  have wo : ∀ i, (S.without i).Ok := fun i => h.sub fun p hp => List.mem_of_mem_eraseIdx hp
  unfold Net.exec
  split
  · show (S.send o.a o.b o.data).1.Ok
    unfold Net.send
    split
    · rename_i hn
      simp only [Bool.and_eq_true, node_iff] at hn
      exact h.put _ hn.1 hn.2
    · exact h
  · split
    · show (S.deliver o.id).1.Ok
      unfold Net.deliver
      split
      · exact h
      · simp only
        split
        · exact h
        · exact wo _
    · split
      · show (S.drop o.id).1.Ok
        unfold Net.drop
        split
        · exact h
        · exact wo _
      · split
        · show (S.copy o.id).1.Ok
          unfold Net.copy
          split
          · exact h
          · rename_i i hi
            unfold Net.at_ at hi
            have hlt := (List.findIdx?_eq_some_iff_getElem.1 hi).1
            have hg : S.l.getD i zeroP = S.l[i] := by simp [List.getD, hlt]
            have := h.nodes _ (List.getElem_mem hlt)
            simp only [hg]
            exact h.put _ ⟨this.1, this.2.1⟩ ⟨this.2.2.1, this.2.2.2⟩
        · split
          · exact h.setCut _ _ _
          · show (S.clear o.a).1.Ok
            unfold Net.clear
            split
            · exact h.sub fun p hp => (List.mem_filter.1 hp).1
            · exact h
theorem setCut_same (S : Net) (a b : Int) (c : Bool) : (S.setCut a b c).1.l = S.l ∧ (S.setCut a b c).1.n = S.n ∧ (S.setCut a b c).1.last = S.last := by
  unfold Net.setCut
  split <;> exact ⟨rfl, rfl, rfl⟩
theorem Net.Inv.setCut {S : Net} (h : S.Inv) (a b : Int) (c : Bool) : (S.setCut a b c).1.Inv := by
  obtain ⟨h1, h2, h3⟩ := setCut_same S a b c
  exact ⟨by rw [h1]; exact h.len, by rw [h3]; exact h.last, by rw [h1]; exact h.asc, by rw [h1, h3]; exact h.ids⟩
/-- healed up to the link (a, b), b < a -/
def Net.Healed (S : Net) (a b : Int) : Prop := ∀ x y, getA S.cut (x, y) = some true → a ≤ y ∧ (y = a → b ≤ x)
theorem heal_ok {S : Net} {a b : Int} (h : 0 ≤ b ∧ b < a ∧ a < S.n) : (S.setCut b a false).2 = 0 := by
  unfold Net.setCut
  rw [if_pos]
  simp only [Bool.and_eq_true, Bool.not_eq_true', decide_eq_false_iff_not, node_iff]
  omega
theorem heal_step {S : Net} {a b : Int} (h : 0 ≤ b ∧ b < a ∧ a < S.n) (hh : S.Healed a b) : (S.setCut b a false).1.Healed a (b + 1) := by
  intro x y hxy
  have e : (S.setCut b a false).1 = { S with cut := setA S.cut (min b a, max b a) false } := by
    unfold Net.setCut
    rw [if_pos]
    simp only [Bool.and_eq_true, Bool.not_eq_true', decide_eq_false_iff_not, node_iff]
    omega
  rw [e] at hxy
  simp only [getA_setA] at hxy
  split at hxy
  · cases hxy
  · rename_i hne
    obtain ⟨h1, h2⟩ := hh x y hxy
    refine ⟨h1, fun hy => ?_⟩
    have h3 := h2 hy
    rcases Int.lt_or_eq_of_le h3 with h4 | h4
    · omega
    · exfalso
      apply hne
      rw [show min b a = b from by omega, show max b a = a from by omega, hy, h4]
theorem heal_next {S : Net} (hS : S.Ok) {a : Int} (hh : S.Healed a a) : S.Healed (a + 1) 0 := by
  intro x y hxy
  obtain ⟨h1, h2⟩ := hh x y hxy
  obtain ⟨c1, c2, c3⟩ := hS.cuts x y hxy
  refine ⟨?_, fun _ => c1⟩
  rcases Int.lt_or_eq_of_le h1 with h3 | h3
  · omega
  · have := h2 h3.symm
    omega
theorem heal_start (S : Net) (hS : S.Ok) : S.Healed 0 0 := fun x y hxy => by
  obtain ⟨c1, c2, c3⟩ := hS.cuts x y hxy
  exact ⟨by omega, fun h => by omega⟩
theorem heal_done {S : Net} (hS : S.Ok) {a : Int} (ha : S.n ≤ a) (hh : S.Healed a 0) : S.ready = S.l := by
  unfold Net.ready
  rw [List.filter_eq_self]
  intro p _
  simp only [Bool.not_eq_true', Net.isCut]
  cases hg : getA S.cut (min p.src p.dst, max p.src p.dst) with
  | none => rfl
  | some b =>
    cases b with
    | false => rfl
    | true =>
      obtain ⟨c1, c2, c3⟩ := hS.cuts _ _ hg
      obtain ⟨h1, _⟩ := hh _ _ hg
      omega
end Go.Proofs.Ytinpinjjdkilpaa
/- The document's Do, on the machine: it answers as the plain network. -/
namespace Go.Proofs.Ytinpinjjdkilpaa
open Go Go.RowKit
def c18_1 : C := .seq (.seq (.reg [⟨(.some 61), (.mv (.t 8)), .none⟩, ⟨(.some 62), (.faddr 2 (.t 2)), .none⟩, ⟨(.some 63), (.load .any .false 1 (.t 62)), .none⟩, ⟨(.some 64), (.len .false (.t 63)), .none⟩, ⟨(.some 65), (.bin .lss .false (.t 61) (.t 64)), .none⟩]) (.cond (.t 65) .skip (.exit 1))) (.seq (.block 2 (.seq (.reg [⟨(.some 68), (.faddr 2 (.t 2)), .none⟩, ⟨(.some 69), (.load .any .false 1 (.t 68)), .none⟩, ⟨(.some 70), (.mv (.t 8)), .none⟩, ⟨(.some 71), (.iaddr 4 (.t 69) (.t 70)), .none⟩, ⟨(.some 72), (.faddr 2 (.t 71)), .none⟩, ⟨(.some 73), (.load .any .false 1 (.t 72)), .none⟩, ⟨(.some 74), (.faddr 1 (.t 3)), .none⟩, ⟨(.some 75), (.load .any .false 1 (.t 74)), .none⟩, ⟨(.some 76), (.bin .neq .false (.t 73) (.t 75)), .none⟩]) (.cond (.t 76) (.reg [⟨(.some 77), (.mv (.t 7)), .none⟩, ⟨(.some 78), (.faddr 2 (.t 2)), .none⟩, ⟨(.some 79), (.load .any .false 1 (.t 78)), .none⟩, ⟨(.some 80), (.mv (.t 8)), .none⟩, ⟨(.some 81), (.iaddr 4 (.t 79) (.t 80)), .none⟩, ⟨(.some 82), (.load .any .true 4 (.t 81)), .none⟩, ⟨(.some 83), (.bsl [(.int .i64 0), (.int .i64 0), (.int .i64 0), (.str (ByteArray.mk #[]))] 1 [(0, (.t 82))]), .none⟩, ⟨(.some 84), (.app .any 42 4 40 (.t 77) (.t 83)), .none⟩, ⟨(.some 7), (.mv (.t 84)), .none⟩]) .skip))) (.reg [⟨(.some 66), (.mv (.t 8)), .none⟩, ⟨(.some 67), (.bin .add .false (.t 66) (.c (.int .i64 1))), .none⟩, ⟨(.some 8), (.mv (.t 67)), .none⟩]))
def c18 : FnC := ⟨(.seq (.reg [⟨(.some 2), (.box 4 (.t 0)), .none⟩, ⟨(.some 3), (.box 6 (.t 1)), .none⟩, ⟨(.some 4), (.alloc [(.int .i64 0), (.int .i64 0), (.sl .true []), (.sl .true [])]), .none⟩, ⟨(.some 5), (.alloc [(.int .i64 0), (.int .i64 0), (.int .i64 0), (.int .i64 0), (.str (ByteArray.mk #[])), (.int .i64 0), (.int .i64 0)]), .none⟩]) (.seq (.reg [⟨(.some 11), (.load .any .true 4 (.t 2)), .none⟩, ⟨(.some 12), (.faddr 3 (.t 3)), .none⟩, ⟨(.some 13), (.load .any .false 1 (.t 12)), .none⟩, ⟨(.some 14), (.call .any 32 [(.t 11), (.t 13)]), .none⟩, ⟨(.some 6), (.mv (.t 14)), .none⟩]) (.seq (.seq (.reg [⟨(.some 15), (.faddr 0 (.t 3)), .none⟩, ⟨(.some 16), (.load .any .false 1 (.t 15)), .none⟩, ⟨(.some 17), (.bin .rem .false (.t 16) (.c (.int .u8 6))), .none⟩]) (.block 0 (.seq (.reg [⟨(.some 19), (.bin .eql .false (.t 17) (.c (.int .u8 0))), .none⟩, ⟨(.some 18), (.mv (.t 19)), .none⟩]) (.cond (.t 18) (.seq (.seq (.reg [⟨(.some 20), (.load .any .true 4 (.t 2)), .none⟩, ⟨(.some 21), (.faddr 1 (.t 3)), .none⟩, ⟨(.some 22), (.load .any .false 1 (.t 21)), .none⟩, ⟨(.some 23), (.call .any 33 [(.t 20), (.t 22)]), .none⟩, ⟨(.some 24), (.un .not (.t 23)), .none⟩, ⟨(.some 25), (.mv (.t 24)), .none⟩, ⟨(.some 26), (.load .any .true 4 (.t 2)), (.some (25, .false))⟩, ⟨(.some 27), (.faddr 2 (.t 3)), (.some (25, .false))⟩, ⟨(.some 28), (.load .any .false 1 (.t 27)), (.some (25, .false))⟩, ⟨(.some 29), (.call .any 33 [(.t 26), (.t 28)]), (.some (25, .false))⟩, ⟨(.some 30), (.un .not (.t 29)), (.some (25, .false))⟩, ⟨(.some 31), (.pick (.t 25) (.c (.bool .true)) (.t 30)), .none⟩]) (.cond (.t 31) (.seq (.reg [⟨(.some 32), (.load .any .true 4 (.t 2)), .none⟩, ⟨(.some 33), (.build [(.int .i64 0), (.int .i64 0), (.int .i64 0), (.int .i64 0), (.str (ByteArray.mk #[])), (.int .i64 0), (.int .i64 0)] [(6, (1, (.c (.int .i64 7))))]), .none⟩, ⟨.none, (.store .any .true 4 (.t 4) (.t 32)), .none⟩, ⟨.none, (.store .any .true 7 (.t 5) (.t 33)), .none⟩]) .ret) .skip)) (.seq (.reg [⟨(.some 34), (.load .any .true 4 (.t 2)), .none⟩, ⟨(.some 35), (.faddr 1 (.t 3)), .none⟩, ⟨(.some 36), (.load .any .false 1 (.t 35)), .none⟩, ⟨(.some 37), (.faddr 2 (.t 3)), .none⟩, ⟨(.some 38), (.load .any .false 1 (.t 37)), .none⟩, ⟨(.some 39), (.faddr 4 (.t 3)), .none⟩, ⟨(.some 40), (.load .any .false 1 (.t 39)), .none⟩, ⟨(.some 41), (.build [(.int .i64 0), (.int .i64 0), (.int .i64 0), (.str (ByteArray.mk #[]))] [(1, (1, (.t 36))), (2, (1, (.t 38))), (3, (1, (.t 40)))]), .none⟩, ⟨(.some 42), (.call .any 34 [(.t 34), (.t 41)]), .none⟩, ⟨(.some 43), (.ext (.t 42) 0), .none⟩, ⟨(.some 44), (.ext (.t 42) 1), .none⟩, ⟨.none, (.store .any .true 4 (.t 4) (.t 43)), .none⟩, ⟨.none, (.store .any .true 7 (.t 5) (.t 44)), .none⟩]) .ret)) (.seq (.reg [⟨(.some 46), (.bin .eql .false (.t 17) (.c (.int .u8 4))), .none⟩, ⟨(.some 45), (.mv (.t 46)), .none⟩]) (.cond (.t 45) (.seq (.reg [⟨(.some 47), (.load .any .true 4 (.t 2)), .none⟩, ⟨(.some 48), (.load .any .true 6 (.t 3)), .none⟩, ⟨(.some 49), (.call .any 35 [(.t 47), (.t 48)]), .none⟩, ⟨(.some 50), (.ext (.t 49) 0), .none⟩, ⟨(.some 51), (.ext (.t 49) 1), .none⟩, ⟨.none, (.store .any .true 4 (.t 4) (.t 50)), .none⟩, ⟨.none, (.store .any .true 7 (.t 5) (.t 51)), .none⟩]) .ret) (.seq (.reg [⟨(.some 53), (.bin .eql .false (.t 17) (.c (.int .u8 5))), .none⟩, ⟨(.some 52), (.mv (.t 53)), .none⟩]) (.cond (.t 52) (.seq (.seq (.reg [⟨(.some 54), (.load .any .true 4 (.t 2)), .none⟩, ⟨(.some 55), (.faddr 1 (.t 3)), .none⟩, ⟨(.some 56), (.load .any .false 1 (.t 55)), .none⟩, ⟨(.some 57), (.call .any 33 [(.t 54), (.t 56)]), .none⟩, ⟨(.some 58), (.un .not (.t 57)), .none⟩]) (.cond (.t 58) (.seq (.reg [⟨(.some 59), (.load .any .true 4 (.t 2)), .none⟩, ⟨(.some 60), (.build [(.int .i64 0), (.int .i64 0), (.int .i64 0), (.int .i64 0), (.str (ByteArray.mk #[])), (.int .i64 0), (.int .i64 0)] [(6, (1, (.c (.int .i64 7))))]), .none⟩, ⟨.none, (.store .any .true 4 (.t 4) (.t 59)), .none⟩, ⟨.none, (.store .any .true 7 (.t 5) (.t 60)), .none⟩]) .ret) .skip)) (.seq (.reg [⟨(.some 7), (.mv (.c (.sl .true []))), .none⟩]) (.seq (.seq (.reg [⟨(.some 8), (.mv (.c (.int .i64 0))), .none⟩]) (.block 1 (.loop c18_1))) (.seq (.reg [⟨(.some 85), (.faddr 2 (.t 2)), .none⟩, ⟨(.some 86), (.load .any .false 1 (.t 85)), .none⟩, ⟨(.some 87), (.len .false (.t 86)), .none⟩, ⟨(.some 88), (.mv (.t 7)), .none⟩, ⟨(.some 89), (.len .false (.t 88)), .none⟩, ⟨(.some 90), (.bin .sub .false (.t 87) (.t 89)), .none⟩, ⟨(.some 9), (.mv (.t 90)), .none⟩]) (.seq (.reg [⟨(.some 91), (.mv (.t 7)), .none⟩, ⟨(.some 92), (.faddr 2 (.t 2)), .none⟩, ⟨.none, (.store .any .false 1 (.t 92) (.t 91)), .none⟩]) (.seq (.reg [⟨(.some 93), (.load .any .true 4 (.t 2)), .none⟩, ⟨(.some 94), (.mv (.t 9)), .none⟩, ⟨(.some 95), (.build [(.int .i64 0), (.int .i64 0), (.int .i64 0), (.int .i64 0), (.str (ByteArray.mk #[])), (.int .i64 0), (.int .i64 0)] [(5, (1, (.t 94)))]), .none⟩, ⟨.none, (.store .any .true 4 (.t 4) (.t 93)), .none⟩, ⟨.none, (.store .any .true 7 (.t 5) (.t 95)), .none⟩]) .ret)))))) .skip)))))))) (.seq (.seq (.reg [⟨(.some 96), (.mv (.t 6)), .none⟩, ⟨(.some 97), (.bin .lss .false (.t 96) (.c (.int .i64 0))), .none⟩]) (.cond (.t 97) (.seq (.reg [⟨(.some 98), (.load .any .true 4 (.t 2)), .none⟩, ⟨(.some 99), (.build [(.int .i64 0), (.int .i64 0), (.int .i64 0), (.int .i64 0), (.str (ByteArray.mk #[])), (.int .i64 0), (.int .i64 0)] [(6, (1, (.c (.int .i64 4))))]), .none⟩, ⟨.none, (.store .any .true 4 (.t 4) (.t 98)), .none⟩, ⟨.none, (.store .any .true 7 (.t 5) (.t 99)), .none⟩]) .ret) .skip)) (.seq (.reg [⟨(.some 100), (.faddr 2 (.t 2)), .none⟩, ⟨(.some 101), (.load .any .false 1 (.t 100)), .none⟩, ⟨(.some 102), (.mv (.t 6)), .none⟩, ⟨(.some 103), (.iaddr 4 (.t 101) (.t 102)), .none⟩, ⟨(.some 104), (.load .any .true 4 (.t 103)), .none⟩, ⟨(.some 10), (.alloc [(.int .i64 0), (.int .i64 0), (.int .i64 0), (.str (ByteArray.mk #[]))]), .none⟩, ⟨.none, (.store .any .true 4 (.t 10) (.t 104)), .none⟩]) (.seq (.seq (.reg [⟨(.some 105), (.faddr 0 (.t 3)), .none⟩, ⟨(.some 106), (.load .any .false 1 (.t 105)), .none⟩, ⟨(.some 107), (.bin .rem .false (.t 106) (.c (.int .u8 6))), .none⟩]) (.block 3 (.seq (.reg [⟨(.some 109), (.bin .eql .false (.t 107) (.c (.int .u8 1))), .none⟩, ⟨(.some 108), (.mv (.t 109)), .none⟩]) (.cond (.t 108) (.seq (.seq (.reg [⟨(.some 110), (.load .any .true 4 (.t 2)), .none⟩, ⟨(.some 111), (.faddr 1 (.t 10)), .none⟩, ⟨(.some 112), (.load .any .false 1 (.t 111)), .none⟩, ⟨(.some 113), (.faddr 2 (.t 10)), .none⟩, ⟨(.some 114), (.load .any .false 1 (.t 113)), .none⟩, ⟨(.some 115), (.call .any 36 [(.t 110), (.t 112), (.t 114)]), .none⟩]) (.cond (.t 115) (.seq (.reg [⟨(.some 116), (.load .any .true 4 (.t 2)), .none⟩, ⟨(.some 117), (.build [(.int .i64 0), (.int .i64 0), (.int .i64 0), (.int .i64 0), (.str (ByteArray.mk #[])), (.int .i64 0), (.int .i64 0)] [(6, (1, (.c (.int .i64 11))))]), .none⟩, ⟨.none, (.store .any .true 4 (.t 4) (.t 116)), .none⟩, ⟨.none, (.store .any .true 7 (.t 5) (.t 117)), .none⟩]) .ret) .skip)) (.seq (.reg [⟨(.some 118), (.load (.root 2) .true 4 (.t 2)), .none⟩, ⟨(.some 119), (.mv (.t 6)), .none⟩, ⟨(.some 120), (.call .imm 37 [(.t 118), (.t 119)]), .none⟩, ⟨(.some 121), (.load (.root 10) .true 4 (.t 10)), .none⟩, ⟨(.some 122), (.build [(.int .i64 0), (.int .i64 0), (.int .i64 0), (.int .i64 0), (.str (ByteArray.mk #[])), (.int .i64 0), (.int .i64 0)] [(1, (4, (.t 121)))]), .none⟩, ⟨.none, (.store (.root 4) .true 4 (.t 4) (.t 120)), .none⟩, ⟨.none, (.store (.root 5) .true 7 (.t 5) (.t 122)), .none⟩]) .ret)) (.seq (.reg [⟨(.some 124), (.bin .eql .false (.t 107) (.c (.int .u8 2))), .none⟩, ⟨(.some 123), (.mv (.t 124)), .none⟩]) (.cond (.t 123) (.seq (.reg [⟨(.some 125), (.load .any .true 4 (.t 2)), .none⟩, ⟨(.some 126), (.mv (.t 6)), .none⟩, ⟨(.some 127), (.call .any 37 [(.t 125), (.t 126)]), .none⟩, ⟨(.some 128), (.build [(.int .i64 0), (.int .i64 0), (.int .i64 0), (.int .i64 0), (.str (ByteArray.mk #[])), (.int .i64 0), (.int .i64 0)] []), .none⟩, ⟨.none, (.store .any .true 4 (.t 4) (.t 127)), .none⟩, ⟨.none, (.store .any .true 7 (.t 5) (.t 128)), .none⟩]) .ret) .skip)))))) (.seq (.reg [⟨(.some 129), (.load .any .true 4 (.t 2)), .none⟩, ⟨(.some 130), (.load .any .true 4 (.t 10)), .none⟩, ⟨(.some 131), (.call .any 34 [(.t 129), (.t 130)]), .none⟩, ⟨(.some 132), (.ext (.t 131) 0), .none⟩, ⟨(.some 133), (.ext (.t 131) 1), .none⟩, ⟨.none, (.store .any .true 4 (.t 4) (.t 132)), .none⟩, ⟨.none, (.store .any .true 7 (.t 5) (.t 133)), .none⟩]) .ret))))))), [(.cell 4 .true 4), (.cell 5 .true 7)], 2, []⟩
set_option maxRecDepth 10000
set_option maxHeartbeats 1000000
set_option linter.unusedSimpArgs false
set_option linter.unusedSectionVars false
def stOf (S : Net) (Z : List (Int × Int)) : St := ⟨S.n, S.last + 1, S.l, Z⟩
def CutR (S : Net) (Z : List (Int × Int)) : Prop := ∀ a b, (Z.any fun c => c == pairOf a b) = S.isCut a b
theorem CutR.same {S S' : Net} {Z : List (Int × Int)} (h : CutR S Z) (he : S'.cut = S.cut) : CutR S' Z := fun a b => by rw [h a b]; unfold Net.isCut; rw [he]
theorem CutR.new (n : Int) : CutR (newNet n) [] := fun a b => by simp [newNet, Net.isCut, getA]
theorem CutR.cut {S : Net} {Z : List (Int × Int)} (h : CutR S Z) (a b : Int) (c : Bool) (hn : (S.node a && (S.node b && !decide (a = b))) = true) : CutR (S.setCut a b c).1 (Z.filter (fun x => x != pairOf a b) ++ (if c then [pairOf a b] else [])) := fun x y => by
  have e : (S.setCut a b c).1 = { S with cut := setA S.cut (min a b, max a b) c } := by unfold Net.setCut; rw [if_pos hn]
  rw [e]
  have hxy := h x y
  simp only [Net.isCut, pairOf, getA_setA] at hxy ⊢
  rw [List.any_append, List.any_filter]
  by_cases he : (min x y, max x y) = (min a b, max a b)
  · rw [if_pos he, he]
    have h0 : (Z.any fun z => (z != (min a b, max a b)) && (z == (min a b, max a b))) = false := by
      rw [List.any_eq_false]
      intro z _
      by_cases hz : z = (min a b, max a b) <;> simp [hz]
    rw [h0]
    cases c <;> simp
  · rw [if_neg he, ← hxy]
    have h1 : ((if c = true then [(min a b, max a b)] else []).any fun z => z == (min x y, max x y)) = false := by
      cases c
      · rfl
      · simp only [if_true, List.any_cons, List.any_nil, Bool.or_false, beq_eq_false_iff_ne]
        exact fun h => he h.symm
    rw [h1, Bool.or_false]
    congr 1
    funext z
    by_cases hz : z = (min x y, max x y)
    · subst hz; simp [he]
    · simp [hz]
section
variable {T : Nat → Option FnC} {ext : CallT}
structure RefT (T : Nat → Option FnC) : Prop where
  h18 : T 18 = some c18
  h32 : T 32 = some c32
  h33 : T 33 = some c33
  h34 : T 34 = some c34
  h35 : T 35 = some c35
  h36 : T 36 = some c36
  h37 : T 37 = some c37
  h45 : T 45 = some c45
theorem clr_lp (b1 b2 : Bool) (S : St) (o : Op) (hlen : S.l.length ≤ 1000) (r : RV) (k : Ex → MSt → Option RV)
    (hk : ∀ (s : MSt), KCut b1 b2 S o s → (s.env 7).v = .sl (S.l.filter (fun p => !(p.dst == o.a))).isEmpty ((S.l.filter (fun p => !(p.dst == o.a))).map Pkt.cv) → k (.exit 1) s = some r) :
    ∀ (n i : Nat) (acc : List Pkt), i + n = S.l.length → acc.length ≤ i → acc ++ (S.l.drop i).filter (fun p => !(p.dst == o.a)) = S.l.filter (fun p => !(p.dst == o.a)) → ∀ s : MSt, (s.env 8).v = .int .i64 i → KCut b1 b2 S o s → (s.env 7).v = .sl acc.isEmpty (acc.map Pkt.cv) → ((s.env 7).a = .ex ∨ (s.env 7).a = .own 84 42) → evL T ext c18_1 s k = some r := by
  intro n
  induction n with
  | zero =>
    intro i acc hi hacc hf s e8 hK e7 a7
    obtain rfl : i = S.l.length := by omega
    obtain ⟨e2, e3, e4, e5, m2, m3, m4, m5⟩ := hK
    refine evL_intro ?_
    simp only [stC, List.map_cons, List.map_nil] at m2
    simp [c18_1, e_ob2, frz_free, frz_map, AV.frz, AV.frz0, kill_free, kill_map, AV.kill, AV.kill0, killE_at, killM_at, Slot.kill_v, Slot.kill_a, Slot.kill_mk, m_kill, m_kill0, e_rn, -Option.bind_some, ↓bind_some2, putE_at, setM_at, setO_at, stripE_at, stripM_at, Slot.strip_v, Slot.strip_a, Slot.strip_mk, An.strip, argE_at, noM_at, objE_at, m_init, m_put, m_put0, m_row, m_obj, m_strip, m_stripA, m_stripX, ↓seqK_nrm, ↓seqK_exit, ↓seqK_ret, ↓regK_at, ↓blkK_nrm, ↓blkK_exit, ↓blkK_ret, ↓condC_true, ↓condC_false, ↓guardC_bool, ↓guardC_tup, ↓r_skip, ↓r_seq, ↓r_reg, ↓r_cond, ↓r_block, ↓r_loop, ↓r_exit, ↓r_ret, ↓a_nrm, ↓a_exit, ↓a_ret, ↓o_nil, ↓o_cons, ↓s_plain, ↓s_guard, e_none, e_set, e_newp, e_newr, e_app, e_obj, e_mk, K.run, Opd.get, setRowC, AV.leaf, AV.whole, AV.cells, binC, mmC, eqC, natOf, loadC, loadI, Cl.okPtr, Cl.okMem, fillC, fin, finV, objAt, unname, resC, AV.free, AV.free0, AV.back, AV.backN, AV.isObj, AV.named, pack, lendAll, lend, objsOf, endC, AV.elems, Opd.an, zeroAn, elsOk_nil, elsOk_cons, elsOk_append, elsOk_map, elsOk_take, elsOk_drop, take_map_len, List.range_succ, List.range_zero, List.nil_append, List.cons_append, e8, e2, m2]
    simp only [List.drop_length, List.filter_nil, List.append_nil] at hf
    subst hf
    refine hk _ ⟨?_, ?_, ?_, ?_, ?_, ?_, ?_, ?_⟩ ?_ <;> simp [*, stC]
  | succ n ih =>
    intro i acc hi hacc hf s e8 hK e7 a7
    have hlt : i < S.l.length := by omega
    have hw : IntKind.i64.wrap ((i : Int) + 1) = ((i + 1 : Nat) : Int) := by rw [IntWalk.i64_in _ (by omega)]; rfl
    rw [List.drop_eq_getElem_cons hlt, List.filter_cons] at hf
    obtain ⟨e2, e3, e4, e5, m2, m3, m4, m5⟩ := hK
    simp only [stC, List.map_cons, List.map_nil] at m2
    simp only [opC, List.map_cons, List.map_nil] at m3
    refine evL_intro ?_
    by_cases h : (S.l[i]).dst = o.a
    · have hf' : acc ++ (S.l.drop (i + 1)).filter (fun p => !(p.dst == o.a)) = S.l.filter (fun p => !(p.dst == o.a)) := by rw [← hf]; simp [h]
      simp [c18_1, e_ob2, frz_free, frz_map, AV.frz, AV.frz0, kill_free, kill_map, AV.kill, AV.kill0, killE_at, killM_at, Slot.kill_v, Slot.kill_a, Slot.kill_mk, m_kill, m_kill0, e_rn, -Option.bind_some, ↓bind_some2, putE_at, setM_at, setO_at, stripE_at, stripM_at, Slot.strip_v, Slot.strip_a, Slot.strip_mk, An.strip, argE_at, noM_at, objE_at, m_init, m_put, m_put0, m_row, m_obj, m_strip, m_stripA, m_stripX, ↓seqK_nrm, ↓seqK_exit, ↓seqK_ret, ↓regK_at, ↓blkK_nrm, ↓blkK_exit, ↓blkK_ret, ↓condC_true, ↓condC_false, ↓guardC_bool, ↓guardC_tup, ↓r_skip, ↓r_seq, ↓r_reg, ↓r_cond, ↓r_block, ↓r_loop, ↓r_exit, ↓r_ret, ↓a_nrm, ↓a_exit, ↓a_ret, ↓o_nil, ↓o_cons, ↓s_plain, ↓s_guard, e_none, e_set, e_newp, e_newr, e_app, e_obj, e_mk, K.run, Opd.get, setRowC, AV.leaf, AV.whole, AV.cells, binC, mmC, eqC, natOf, loadC, loadI, Cl.okPtr, Cl.okMem, fillC, fin, finV, objAt, unname, resC, AV.free, AV.free0, AV.back, AV.backN, AV.isObj, AV.named, pack, lendAll, lend, objsOf, endC, AV.elems, Opd.an, zeroAn, elsOk_nil, elsOk_cons, elsOk_append, elsOk_map, elsOk_take, elsOk_drop, take_map_len, List.range_succ, List.range_zero, List.nil_append, List.cons_append, e8, e2, e3, m2, m3, hlt, Pkt.cv, h, hw]
      refine ih (i + 1) acc (by omega) (by omega) hf' _ ?_ ⟨?_, ?_, ?_, ?_, ?_, ?_, ?_, ?_⟩ ?_ ?_ <;> simp [*, stC, opC]
    · have hf' : (acc ++ [S.l[i]]) ++ (S.l.drop (i + 1)).filter (fun p => !(p.dst == o.a)) = S.l.filter (fun p => !(p.dst == o.a)) := by rw [← hf]; simp [h]
      have h8 : roomOk 40 (acc.length + 1) = true := roomOk_iff.2 ⟨by omega, by omega⟩
      rcases a7 with a7 | a7
      all_goals
        simp [c18_1, e_ob2, frz_free, frz_map, AV.frz, AV.frz0, kill_free, kill_map, AV.kill, AV.kill0, killE_at, killM_at, Slot.kill_v, Slot.kill_a, Slot.kill_mk, m_kill, m_kill0, e_rn, -Option.bind_some, ↓bind_some2, putE_at, setM_at, setO_at, stripE_at, stripM_at, Slot.strip_v, Slot.strip_a, Slot.strip_mk, An.strip, argE_at, noM_at, objE_at, m_init, m_put, m_put0, m_row, m_obj, m_strip, m_stripA, m_stripX, ↓seqK_nrm, ↓seqK_exit, ↓seqK_ret, ↓regK_at, ↓blkK_nrm, ↓blkK_exit, ↓blkK_ret, ↓condC_true, ↓condC_false, ↓guardC_bool, ↓guardC_tup, ↓r_skip, ↓r_seq, ↓r_reg, ↓r_cond, ↓r_block, ↓r_loop, ↓r_exit, ↓r_ret, ↓a_nrm, ↓a_exit, ↓a_ret, ↓o_nil, ↓o_cons, ↓s_plain, ↓s_guard, e_none, e_set, e_newp, e_newr, e_app, e_obj, e_mk, K.run, Opd.get, setRowC, AV.leaf, AV.whole, AV.cells, binC, mmC, eqC, natOf, loadC, loadI, Cl.okPtr, Cl.okMem, fillC, fin, finV, objAt, unname, resC, AV.free, AV.free0, AV.back, AV.backN, AV.isObj, AV.named, pack, lendAll, lend, objsOf, endC, AV.elems, Opd.an, zeroAn, elsOk_nil, elsOk_cons, elsOk_append, elsOk_map, elsOk_take, elsOk_drop, take_map_len, List.range_succ, List.range_zero, List.nil_append, List.cons_append, e8, e2, e3, e7, a7, m2, m3, hlt, Pkt.cv, h, hw, h8, els_pk]
        refine ih (i + 1) (acc ++ [S.l[i]]) (by omega) (by simp; omega) hf' _ ?_ ⟨?_, ?_, ?_, ?_, ?_, ?_, ?_, ?_⟩ ?_ ?_ <;> simp [*, stC, opC, Pkt.cv, An.strip]
/-- what Do answers -/
def DoR (T : Nat → Option FnC) (ext : CallT) (b1 b2 : Bool) (S : Net) (Z : List (Int × Int)) (o : Op) : Prop :=
  ∃ c1 c2 Z', evC T ext 18 [stA b1 b2 (stOf S Z), .agg (opC o)] none = some (.tup [stA c1 c2 (stOf (S.exec o).1 Z'), resA (S.exec o).2], none) ∧ CutR (S.exec o).1 Z' ∧ Z'.length ≤ Z.length + 1
variable (hT : RefT T) (b1 b2 : Bool) (S : Net) (Z : List (Int × Int)) (o : Op) (hI : S.Inv) (hlast : S.last ≤ 1000000) (hC : CutR S Z) (hK : Z.length ≤ 500) (ho : o.ok)
include hT hI hlast hC hK ho
theorem do_find : evC T ext 32 [.agg (stC b1 b2 (stOf S Z)), .int .i64 o.id] none = some (.int .i64 (match S.at_ o.id with | none => -1 | some i => (i : Int)), none) := by
  have := find_ev (ext := ext) hT.h32 b1 b2 (stOf S Z) o.id (by have := hI.len; simp only [stOf]; omega)
  rw [findF_eq] at this
  simp only [Nat.zero_add] at this
  exact this
theorem do_0 (c : o.kind % 6 = 0) : DoR T ext b1 b2 S Z o := by
  have hf := do_find (ext := ext) hT b1 b2 S Z o hI hlast hC hK ho
  have ht : o.kind.tmod 6 = o.kind % 6 := Int.tmod_eq_emod_of_nonneg ho.1
  have n1 := node_ev (ext := ext) hT.h33 b1 b2 (stOf S Z) o.a
  have n2 := node_ev (ext := ext) hT.h33 b1 b2 (stOf S Z) o.b
  have g1 : (stOf S Z).node o.a = S.node o.a := rfl
  have g2 : (stOf S Z).node o.b = S.node o.b := rfl
  rw [g1] at n1
  rw [g2] at n2
  simp only [stA, stC, stOf] at n1 n2 hf
  unfold DoR Net.exec
  rw [if_pos c]
  simp only [Net.send]
  cases ha : S.node o.a with
  | false =>
    rw [ha] at n1
    refine ⟨b1, b2, Z, evC_intro c18 hT.h18 rfl ?_, hC, by omega⟩
    simp [c18, e_ob2, frz_free, frz_map, AV.frz, AV.frz0, kill_free, kill_map, AV.kill, AV.kill0, killE_at, killM_at, Slot.kill_v, Slot.kill_a, Slot.kill_mk, m_kill, m_kill0, e_rn, -Option.bind_some, ↓bind_some2, putE_at, setM_at, setO_at, stripE_at, stripM_at, Slot.strip_v, Slot.strip_a, Slot.strip_mk, An.strip, argE_at, noM_at, objE_at, m_init, m_put, m_put0, m_row, m_obj, m_strip, m_stripA, m_stripX, ↓seqK_nrm, ↓seqK_exit, ↓seqK_ret, ↓regK_at, ↓blkK_nrm, ↓blkK_exit, ↓blkK_ret, ↓condC_true, ↓condC_false, ↓guardC_bool, ↓guardC_tup, ↓r_skip, ↓r_seq, ↓r_reg, ↓r_cond, ↓r_block, ↓r_loop, ↓r_exit, ↓r_ret, ↓a_nrm, ↓a_exit, ↓a_ret, ↓o_nil, ↓o_cons, ↓s_plain, ↓s_guard, e_none, e_set, e_newp, e_newr, e_app, e_obj, e_mk, K.run, Opd.get, setRowC, AV.leaf, AV.whole, AV.cells, binC, mmC, eqC, natOf, loadC, loadI, Cl.okPtr, Cl.okMem, fillC, fin, finV, objAt, unname, resC, AV.free, AV.free0, AV.back, AV.backN, AV.isObj, AV.named, pack, lendAll, lend, objsOf, endC, AV.elems, Opd.an, zeroAn, elsOk_nil, elsOk_cons, elsOk_append, elsOk_map, elsOk_take, elsOk_drop, take_map_len, List.range_succ, List.range_zero, List.nil_append, List.cons_append, stA, stC, stOf, opC, hf, ht, c, n1]
    rfl
  | true =>
    rw [ha] at n1
    cases hb : S.node o.b with
    | false =>
      rw [hb] at n2
      refine ⟨b1, b2, Z, evC_intro c18 hT.h18 rfl ?_, hC, by omega⟩
      simp [c18, e_ob2, frz_free, frz_map, AV.frz, AV.frz0, kill_free, kill_map, AV.kill, AV.kill0, killE_at, killM_at, Slot.kill_v, Slot.kill_a, Slot.kill_mk, m_kill, m_kill0, e_rn, -Option.bind_some, ↓bind_some2, putE_at, setM_at, setO_at, stripE_at, stripM_at, Slot.strip_v, Slot.strip_a, Slot.strip_mk, An.strip, argE_at, noM_at, objE_at, m_init, m_put, m_put0, m_row, m_obj, m_strip, m_stripA, m_stripX, ↓seqK_nrm, ↓seqK_exit, ↓seqK_ret, ↓regK_at, ↓blkK_nrm, ↓blkK_exit, ↓blkK_ret, ↓condC_true, ↓condC_false, ↓guardC_bool, ↓guardC_tup, ↓r_skip, ↓r_seq, ↓r_reg, ↓r_cond, ↓r_block, ↓r_loop, ↓r_exit, ↓r_ret, ↓a_nrm, ↓a_exit, ↓a_ret, ↓o_nil, ↓o_cons, ↓s_plain, ↓s_guard, e_none, e_set, e_newp, e_newr, e_app, e_obj, e_mk, K.run, Opd.get, setRowC, AV.leaf, AV.whole, AV.cells, binC, mmC, eqC, natOf, loadC, loadI, Cl.okPtr, Cl.okMem, fillC, fin, finV, objAt, unname, resC, AV.free, AV.free0, AV.back, AV.backN, AV.isObj, AV.named, pack, lendAll, lend, objsOf, endC, AV.elems, Opd.an, zeroAn, elsOk_nil, elsOk_cons, elsOk_append, elsOk_map, elsOk_take, elsOk_drop, take_map_len, List.range_succ, List.range_zero, List.nil_append, List.cons_append, stA, stC, stOf, opC, hf, ht, c, n1, n2]
      rfl
    | true =>
      rw [hb] at n2
      simp only [Bool.and_self, if_true, Net.put]
      by_cases hl : S.l.length < 64
      · have hadd := radd_ev (ext := ext) hT.h34 b1 b2 (stOf S Z) ⟨0, o.a, o.b, o.data⟩ hl ⟨by have := hI.last; simp only [stOf]; omega, by simp only [stOf]; omega⟩
        simp only [if_pos hl]
        refine ⟨false, b2, Z, evC_intro c18 hT.h18 rfl ?_, hC.same rfl, by omega⟩
        simp only [stA, stC, stOf, Pkt.cv, resA] at hadd
        simp [c18, e_ob2, frz_free, frz_map, AV.frz, AV.frz0, kill_free, kill_map, AV.kill, AV.kill0, killE_at, killM_at, Slot.kill_v, Slot.kill_a, Slot.kill_mk, m_kill, m_kill0, e_rn, -Option.bind_some, ↓bind_some2, putE_at, setM_at, setO_at, stripE_at, stripM_at, Slot.strip_v, Slot.strip_a, Slot.strip_mk, An.strip, argE_at, noM_at, objE_at, m_init, m_put, m_put0, m_row, m_obj, m_strip, m_stripA, m_stripX, ↓seqK_nrm, ↓seqK_exit, ↓seqK_ret, ↓regK_at, ↓blkK_nrm, ↓blkK_exit, ↓blkK_ret, ↓condC_true, ↓condC_false, ↓guardC_bool, ↓guardC_tup, ↓r_skip, ↓r_seq, ↓r_reg, ↓r_cond, ↓r_block, ↓r_loop, ↓r_exit, ↓r_ret, ↓a_nrm, ↓a_exit, ↓a_ret, ↓o_nil, ↓o_cons, ↓s_plain, ↓s_guard, e_none, e_set, e_newp, e_newr, e_app, e_obj, e_mk, K.run, Opd.get, setRowC, AV.leaf, AV.whole, AV.cells, binC, mmC, eqC, natOf, loadC, loadI, Cl.okPtr, Cl.okMem, fillC, fin, finV, objAt, unname, resC, AV.free, AV.free0, AV.back, AV.backN, AV.isObj, AV.named, pack, lendAll, lend, objsOf, endC, AV.elems, Opd.an, zeroAn, elsOk_nil, elsOk_cons, elsOk_append, elsOk_map, elsOk_take, elsOk_drop, take_map_len, List.range_succ, List.range_zero, List.nil_append, List.cons_append, stA, stC, stOf, opC, hf, ht, c, n1, n2, hadd]
        exact ⟨⟨rfl, rfl, by simp [Net.sent]⟩, rfl⟩
      · have hadd := radd_full (ext := ext) hT.h34 b1 b2 (stOf S Z) ⟨0, o.a, o.b, o.data⟩ hl
        simp only [if_neg hl]
        refine ⟨b1, b2, Z, evC_intro c18 hT.h18 rfl ?_, hC, by omega⟩
        simp only [stA, stC, stOf, Pkt.cv, resA] at hadd
        simp [c18, e_ob2, frz_free, frz_map, AV.frz, AV.frz0, kill_free, kill_map, AV.kill, AV.kill0, killE_at, killM_at, Slot.kill_v, Slot.kill_a, Slot.kill_mk, m_kill, m_kill0, e_rn, -Option.bind_some, ↓bind_some2, putE_at, setM_at, setO_at, stripE_at, stripM_at, Slot.strip_v, Slot.strip_a, Slot.strip_mk, An.strip, argE_at, noM_at, objE_at, m_init, m_put, m_put0, m_row, m_obj, m_strip, m_stripA, m_stripX, ↓seqK_nrm, ↓seqK_exit, ↓seqK_ret, ↓regK_at, ↓blkK_nrm, ↓blkK_exit, ↓blkK_ret, ↓condC_true, ↓condC_false, ↓guardC_bool, ↓guardC_tup, ↓r_skip, ↓r_seq, ↓r_reg, ↓r_cond, ↓r_block, ↓r_loop, ↓r_exit, ↓r_ret, ↓a_nrm, ↓a_exit, ↓a_ret, ↓o_nil, ↓o_cons, ↓s_plain, ↓s_guard, e_none, e_set, e_newp, e_newr, e_app, e_obj, e_mk, K.run, Opd.get, setRowC, AV.leaf, AV.whole, AV.cells, binC, mmC, eqC, natOf, loadC, loadI, Cl.okPtr, Cl.okMem, fillC, fin, finV, objAt, unname, resC, AV.free, AV.free0, AV.back, AV.backN, AV.isObj, AV.named, pack, lendAll, lend, objsOf, endC, AV.elems, Opd.an, zeroAn, elsOk_nil, elsOk_cons, elsOk_append, elsOk_map, elsOk_take, elsOk_drop, take_map_len, List.range_succ, List.range_zero, List.nil_append, List.cons_append, stA, stC, stOf, opC, hf, ht, c, n1, n2, hadd]
        rfl
theorem do_4 (c : o.kind % 6 = 4) : DoR T ext b1 b2 S Z o := by
  have hf := do_find (ext := ext) hT b1 b2 S Z o hI hlast hC hK ho
  have ht : o.kind.tmod 6 = o.kind % 6 := Int.tmod_eq_emod_of_nonneg ho.1
  obtain ⟨b, hcut⟩ := cut_rev (ext := ext) hT.h45 hT.h33 hT.h35 b1 b2 (stOf S Z) o (by simp only [stOf]; omega)
  simp only [stA, stC, stOf] at hf
  have key : ∃ Z', (St.doCut (stOf S Z) o).1 = stOf (S.setCut o.a o.b o.cut).1 Z' ∧ (St.doCut (stOf S Z) o).2 = ⟨0, zeroP, 0, (S.setCut o.a o.b o.cut).2⟩ ∧ CutR (S.setCut o.a o.b o.cut).1 Z' ∧ Z'.length ≤ Z.length + 1 := by
    have g1 : ∀ a, (stOf S Z).node a = S.node a := fun a => rfl
    unfold St.doCut
    rw [g1, g1]
    by_cases h : (S.node o.a && (S.node o.b && !decide (o.a = o.b))) = true
    · rw [if_pos (by rw [Bool.and_assoc]; exact h)]
      obtain ⟨q1, q2, q3⟩ := setCut_same S o.a o.b o.cut
      refine ⟨_, ?_, ?_, hC.cut o.a o.b o.cut h, ?_⟩
      · simp only [stOf, q1, q2, q3]
      · unfold Net.setCut; rw [if_pos h]; rfl
      · rw [List.length_append]
        have := List.length_filter_le (fun x => x != pairOf o.a o.b) Z
        cases o.cut <;> simp <;> omega
    · rw [if_neg (by rw [Bool.and_assoc]; exact h)]
      have e : S.setCut o.a o.b o.cut = (S, 7) := by unfold Net.setCut; rw [if_neg h]
      rw [e]
      exact ⟨Z, rfl, rfl, hC, by omega⟩
  obtain ⟨Z', k1, k2, k3, k4⟩ := key
  rw [k1, k2] at hcut
  have e : S.exec o = ((S.setCut o.a o.b o.cut).1, ⟨0, zeroP, 0, (S.setCut o.a o.b o.cut).2⟩) := by
    unfold Net.exec
    rw [if_neg (by omega), if_neg (by omega), if_neg (by omega), if_neg (by omega), if_pos c]
  unfold DoR
  rw [e]
  refine ⟨b1, b, Z', evC_intro c18 hT.h18 rfl ?_, k3, k4⟩
  simp only [stA, stC, stOf, opC, resA] at hcut
  simp [c18, e_ob2, frz_free, frz_map, AV.frz, AV.frz0, kill_free, kill_map, AV.kill, AV.kill0, killE_at, killM_at, Slot.kill_v, Slot.kill_a, Slot.kill_mk, m_kill, m_kill0, e_rn, -Option.bind_some, ↓bind_some2, putE_at, setM_at, setO_at, stripE_at, stripM_at, Slot.strip_v, Slot.strip_a, Slot.strip_mk, An.strip, argE_at, noM_at, objE_at, m_init, m_put, m_put0, m_row, m_obj, m_strip, m_stripA, m_stripX, ↓seqK_nrm, ↓seqK_exit, ↓seqK_ret, ↓regK_at, ↓blkK_nrm, ↓blkK_exit, ↓blkK_ret, ↓condC_true, ↓condC_false, ↓guardC_bool, ↓guardC_tup, ↓r_skip, ↓r_seq, ↓r_reg, ↓r_cond, ↓r_block, ↓r_loop, ↓r_exit, ↓r_ret, ↓a_nrm, ↓a_exit, ↓a_ret, ↓o_nil, ↓o_cons, ↓s_plain, ↓s_guard, e_none, e_set, e_newp, e_newr, e_app, e_obj, e_mk, K.run, Opd.get, setRowC, AV.leaf, AV.whole, AV.cells, binC, mmC, eqC, natOf, loadC, loadI, Cl.okPtr, Cl.okMem, fillC, fin, finV, objAt, unname, resC, AV.free, AV.free0, AV.back, AV.backN, AV.isObj, AV.named, pack, lendAll, lend, objsOf, endC, AV.elems, Opd.an, zeroAn, elsOk_nil, elsOk_cons, elsOk_append, elsOk_map, elsOk_take, elsOk_drop, take_map_len, List.range_succ, List.range_zero, List.nil_append, List.cons_append, stA, stC, stOf, opC, hf, ht, c, hcut]
  rfl
theorem do_5 (c0 : ¬ o.kind % 6 = 0) (c1 : ¬ o.kind % 6 = 1) (c2 : ¬ o.kind % 6 = 2) (c3 : ¬ o.kind % 6 = 3) (c4 : ¬ o.kind % 6 = 4) (c : o.kind % 6 = 5) : DoR T ext b1 b2 S Z o := by
  have hf := do_find (ext := ext) hT b1 b2 S Z o hI hlast hC hK ho
  have ht : o.kind.tmod 6 = o.kind % 6 := Int.tmod_eq_emod_of_nonneg ho.1
  have n1 := node_ev (ext := ext) hT.h33 b1 b2 (stOf S Z) o.a
  have g1 : (stOf S Z).node o.a = S.node o.a := rfl
  rw [g1] at n1
  simp only [stA, stC, stOf] at n1 hf
  have hlen := hI.len
  unfold DoR Net.exec
  rw [if_neg c0, if_neg c1, if_neg c2, if_neg c3, if_neg c4]
  simp only [Net.clear]
  cases ha : S.node o.a with
  | false =>
    rw [ha] at n1
    refine ⟨b1, b2, Z, evC_intro c18 hT.h18 rfl ?_, hC, by omega⟩
    simp [c18, e_ob2, frz_free, frz_map, AV.frz, AV.frz0, kill_free, kill_map, AV.kill, AV.kill0, killE_at, killM_at, Slot.kill_v, Slot.kill_a, Slot.kill_mk, m_kill, m_kill0, e_rn, -Option.bind_some, ↓bind_some2, putE_at, setM_at, setO_at, stripE_at, stripM_at, Slot.strip_v, Slot.strip_a, Slot.strip_mk, An.strip, argE_at, noM_at, objE_at, m_init, m_put, m_put0, m_row, m_obj, m_strip, m_stripA, m_stripX, ↓seqK_nrm, ↓seqK_exit, ↓seqK_ret, ↓regK_at, ↓blkK_nrm, ↓blkK_exit, ↓blkK_ret, ↓condC_true, ↓condC_false, ↓guardC_bool, ↓guardC_tup, ↓r_skip, ↓r_seq, ↓r_reg, ↓r_cond, ↓r_block, ↓r_loop, ↓r_exit, ↓r_ret, ↓a_nrm, ↓a_exit, ↓a_ret, ↓o_nil, ↓o_cons, ↓s_plain, ↓s_guard, e_none, e_set, e_newp, e_newr, e_app, e_obj, e_mk, K.run, Opd.get, setRowC, AV.leaf, AV.whole, AV.cells, binC, mmC, eqC, natOf, loadC, loadI, Cl.okPtr, Cl.okMem, fillC, fin, finV, objAt, unname, resC, AV.free, AV.free0, AV.back, AV.backN, AV.isObj, AV.named, pack, lendAll, lend, objsOf, endC, AV.elems, Opd.an, zeroAn, elsOk_nil, elsOk_cons, elsOk_append, elsOk_map, elsOk_take, elsOk_drop, take_map_len, List.range_succ, List.range_zero, List.nil_append, List.cons_append, stA, stC, stOf, opC, hf, ht, c, n1]
    rfl
  | true =>
    rw [ha] at n1
    have hlp := clr_lp (T := T) (ext := ext) b1 b2 (stOf S Z) o (by simp only [stOf]; omega)
    have hR : (S.l.filter (fun p => !(p.dst == o.a))).length ≤ S.l.length := List.length_filter_le ..
    simp only [stOf] at hlp
    simp only [if_true]
    generalize hg : S.l.filter (fun p => !(p.dst == o.a)) = R at hR hlp ⊢
    have hw : IntKind.i64.wrap ((S.l.length : Int) - (R.length : Int)) = (S.l.length : Int) - (R.length : Int) := IntWalk.i64_in _ (by omega)
    refine ⟨R.isEmpty, b2, Z, evC_intro c18 hT.h18 rfl ?_, hC.same rfl, by omega⟩
    simp [c18, e_ob2, frz_free, frz_map, AV.frz, AV.frz0, kill_free, kill_map, AV.kill, AV.kill0, killE_at, killM_at, Slot.kill_v, Slot.kill_a, Slot.kill_mk, m_kill, m_kill0, e_rn, -Option.bind_some, ↓bind_some2, putE_at, setM_at, setO_at, stripE_at, stripM_at, Slot.strip_v, Slot.strip_a, Slot.strip_mk, An.strip, argE_at, noM_at, objE_at, m_init, m_put, m_put0, m_row, m_obj, m_strip, m_stripA, m_stripX, ↓seqK_nrm, ↓seqK_exit, ↓seqK_ret, ↓regK_at, ↓blkK_nrm, ↓blkK_exit, ↓blkK_ret, ↓condC_true, ↓condC_false, ↓guardC_bool, ↓guardC_tup, ↓r_skip, ↓r_seq, ↓r_reg, ↓r_cond, ↓r_block, ↓r_loop, ↓r_exit, ↓r_ret, ↓a_nrm, ↓a_exit, ↓a_ret, ↓o_nil, ↓o_cons, ↓s_plain, ↓s_guard, e_none, e_set, e_newp, e_newr, e_app, e_obj, e_mk, K.run, Opd.get, setRowC, AV.leaf, AV.whole, AV.cells, binC, mmC, eqC, natOf, loadC, loadI, Cl.okPtr, Cl.okMem, fillC, fin, finV, objAt, unname, resC, AV.free, AV.free0, AV.back, AV.backN, AV.isObj, AV.named, pack, lendAll, lend, objsOf, endC, AV.elems, Opd.an, zeroAn, elsOk_nil, elsOk_cons, elsOk_append, elsOk_map, elsOk_take, elsOk_drop, take_map_len, List.range_succ, List.range_zero, List.nil_append, List.cons_append, stA, stC, stOf, opC, hf, ht, c, n1]
    refine hlp _ _ (fun s hKc e7 => ?main) S.l.length 0 [] (by simp) (by simp) (by simp [hg]) _ ?_ ⟨?_, ?_, ?_, ?_, ?_, ?_, ?_, ?_⟩ ?_ ?_
    case main =>
      obtain ⟨e2, e3, e4, e5, m2, m3, m4, m5⟩ := hKc
      simp only [stC, List.map_cons, List.map_nil] at m2
      simp only [opC, List.map_cons, List.map_nil] at m3
      simp [e_ob2, frz_free, frz_map, AV.frz, AV.frz0, kill_free, kill_map, AV.kill, AV.kill0, killE_at, killM_at, Slot.kill_v, Slot.kill_a, Slot.kill_mk, m_kill, m_kill0, e_rn, -Option.bind_some, ↓bind_some2, putE_at, setM_at, setO_at, stripE_at, stripM_at, Slot.strip_v, Slot.strip_a, Slot.strip_mk, An.strip, argE_at, noM_at, objE_at, m_init, m_put, m_put0, m_row, m_obj, m_strip, m_stripA, m_stripX, ↓seqK_nrm, ↓seqK_exit, ↓seqK_ret, ↓regK_at, ↓blkK_nrm, ↓blkK_exit, ↓blkK_ret, ↓condC_true, ↓condC_false, ↓guardC_bool, ↓guardC_tup, ↓r_skip, ↓r_seq, ↓r_reg, ↓r_cond, ↓r_block, ↓r_loop, ↓r_exit, ↓r_ret, ↓a_nrm, ↓a_exit, ↓a_ret, ↓o_nil, ↓o_cons, ↓s_plain, ↓s_guard, e_none, e_set, e_newp, e_newr, e_app, e_obj, e_mk, K.run, Opd.get, setRowC, AV.leaf, AV.whole, AV.cells, binC, mmC, eqC, natOf, loadC, loadI, Cl.okPtr, Cl.okMem, fillC, fin, finV, objAt, unname, resC, AV.free, AV.free0, AV.back, AV.backN, AV.isObj, AV.named, pack, lendAll, lend, objsOf, endC, AV.elems, Opd.an, zeroAn, elsOk_nil, elsOk_cons, elsOk_append, elsOk_map, elsOk_take, elsOk_drop, take_map_len, List.range_succ, List.range_zero, List.nil_append, List.cons_append, stC, opC, e2, e3, e4, e5, m2, m3, m4, m5, e7, hw, els_pk]
      rfl
    all_goals simp [stC, opC]
theorem do_x (h0 : ¬ o.kind % 6 = 0) (h4 : ¬ o.kind % 6 = 4) (h5 : ¬ o.kind % 6 = 5) (hn : S.at_ o.id = none) : evC T ext 18 [stA b1 b2 (stOf S Z), .agg (opC o)] none = some (.tup [stA b1 b2 (stOf S Z), resA ⟨0, zeroP, 0, 4⟩], none) := by
  have hf := do_find (ext := ext) hT b1 b2 S Z o hI hlast hC hK ho
  have ht : o.kind.tmod 6 = o.kind % 6 := Int.tmod_eq_emod_of_nonneg ho.1
  rw [hn] at hf
  simp only [stA, stC, stOf] at hf
  refine evC_intro c18 hT.h18 rfl ?_
  simp [c18, e_ob2, frz_free, frz_map, AV.frz, AV.frz0, kill_free, kill_map, AV.kill, AV.kill0, killE_at, killM_at, Slot.kill_v, Slot.kill_a, Slot.kill_mk, m_kill, m_kill0, e_rn, -Option.bind_some, ↓bind_some2, putE_at, setM_at, setO_at, stripE_at, stripM_at, Slot.strip_v, Slot.strip_a, Slot.strip_mk, An.strip, argE_at, noM_at, objE_at, m_init, m_put, m_put0, m_row, m_obj, m_strip, m_stripA, m_stripX, ↓seqK_nrm, ↓seqK_exit, ↓seqK_ret, ↓regK_at, ↓blkK_nrm, ↓blkK_exit, ↓blkK_ret, ↓condC_true, ↓condC_false, ↓guardC_bool, ↓guardC_tup, ↓r_skip, ↓r_seq, ↓r_reg, ↓r_cond, ↓r_block, ↓r_loop, ↓r_exit, ↓r_ret, ↓a_nrm, ↓a_exit, ↓a_ret, ↓o_nil, ↓o_cons, ↓s_plain, ↓s_guard, e_none, e_set, e_newp, e_newr, e_app, e_obj, e_mk, K.run, Opd.get, setRowC, AV.leaf, AV.whole, AV.cells, binC, mmC, eqC, natOf, loadC, loadI, Cl.okPtr, Cl.okMem, fillC, fin, finV, objAt, unname, resC, AV.free, AV.free0, AV.back, AV.backN, AV.isObj, AV.named, pack, lendAll, lend, objsOf, endC, AV.elems, Opd.an, zeroAn, elsOk_nil, elsOk_cons, elsOk_append, elsOk_map, elsOk_take, elsOk_drop, take_map_len, List.range_succ, List.range_zero, List.nil_append, List.cons_append, stA, stC, stOf, opC, hf, ht, h0, h4, h5]
  rfl
theorem do_2 (c : o.kind % 6 = 2) : DoR T ext b1 b2 S Z o := by
  have hf := do_find (ext := ext) hT b1 b2 S Z o hI hlast hC hK ho
  have ht : o.kind.tmod 6 = o.kind % 6 := Int.tmod_eq_emod_of_nonneg ho.1
  have hlen := hI.len
  have e : S.exec o = ((S.drop o.id).1, ⟨0, zeroP, 0, (S.drop o.id).2⟩) := by
    unfold Net.exec
    rw [if_neg (by omega), if_neg (by omega), if_pos c]
  unfold DoR
  rw [e]
  unfold Net.drop
  cases hi : S.at_ o.id with
  | none => exact ⟨b1, b2, Z, do_x (ext := ext) hT b1 b2 S Z o hI hlast hC hK ho (by omega) (by omega) (by omega) hi, hC, by omega⟩
  | some i =>
    have hlt := (List.findIdx?_eq_some_iff_getElem.1 hi).1
    have hneg : ¬ (i : Int) < 0 := by omega
    have hwo := without_ev (ext := ext) hT.h37 b1 b2 (stOf S Z) i hlt (by simp only [stOf]; omega)
    rw [hi] at hf
    simp only [stA, stC, stOf] at hf hwo
    refine ⟨false, b2, Z, evC_intro c18 hT.h18 rfl ?_, hC.same rfl, by omega⟩
    have hn : ¬ (i : Int) < 0 := by omega
    simp [c18, e_ob2, frz_free, frz_map, AV.frz, AV.frz0, kill_free, kill_map, AV.kill, AV.kill0, killE_at, killM_at, Slot.kill_v, Slot.kill_a, Slot.kill_mk, m_kill, m_kill0, e_rn, -Option.bind_some, ↓bind_some2, putE_at, setM_at, setO_at, stripE_at, stripM_at, Slot.strip_v, Slot.strip_a, Slot.strip_mk, An.strip, argE_at, noM_at, objE_at, m_init, m_put, m_put0, m_row, m_obj, m_strip, m_stripA, m_stripX, ↓seqK_nrm, ↓seqK_exit, ↓seqK_ret, ↓regK_at, ↓blkK_nrm, ↓blkK_exit, ↓blkK_ret, ↓condC_true, ↓condC_false, ↓guardC_bool, ↓guardC_tup, ↓r_skip, ↓r_seq, ↓r_reg, ↓r_cond, ↓r_block, ↓r_loop, ↓r_exit, ↓r_ret, ↓a_nrm, ↓a_exit, ↓a_ret, ↓o_nil, ↓o_cons, ↓s_plain, ↓s_guard, e_none, e_set, e_newp, e_newr, e_app, e_obj, e_mk, K.run, Opd.get, setRowC, AV.leaf, AV.whole, AV.cells, binC, mmC, eqC, natOf, loadC, loadI, Cl.okPtr, Cl.okMem, fillC, fin, finV, objAt, unname, resC, AV.free, AV.free0, AV.back, AV.backN, AV.isObj, AV.named, pack, lendAll, lend, objsOf, endC, AV.elems, Opd.an, zeroAn, elsOk_nil, elsOk_cons, elsOk_append, elsOk_map, elsOk_take, elsOk_drop, take_map_len, List.range_succ, List.range_zero, List.nil_append, List.cons_append, stA, stC, stOf, opC, hf, ht, c, hneg, hwo, hlt, Pkt.cv]
    exact ⟨⟨rfl, rfl, rfl⟩, rfl⟩
theorem do_1 (c : o.kind % 6 = 1) : DoR T ext b1 b2 S Z o := by
  have hf := do_find (ext := ext) hT b1 b2 S Z o hI hlast hC hK ho
  have ht : o.kind.tmod 6 = o.kind % 6 := Int.tmod_eq_emod_of_nonneg ho.1
  have hlen := hI.len
  have e : S.exec o = ((S.deliver o.id).1, ⟨0, (S.deliver o.id).2.1, 0, (S.deliver o.id).2.2⟩) := by
    unfold Net.exec
    rw [if_neg (by omega), if_pos c]
  unfold DoR
  rw [e]
  unfold Net.deliver
  cases hi : S.at_ o.id with
  | none => exact ⟨b1, b2, Z, do_x (ext := ext) hT b1 b2 S Z o hI hlast hC hK ho (by omega) (by omega) (by omega) hi, hC, by omega⟩
  | some i =>
    have hlt := (List.findIdx?_eq_some_iff_getElem.1 hi).1
    have hneg : ¬ (i : Int) < 0 := by omega
    have hg : S.l.getD i zeroP = S.l[i] := by simp [List.getD, hlt]
    have hwo := without_ev (ext := ext) hT.h37 b1 b2 (stOf S Z) i hlt (by simp only [stOf]; omega)
    have hcu := iscut_ev (ext := ext) hT.h45 hT.h36 b1 b2 (stOf S Z) (S.l[i]).src (S.l[i]).dst (by simp only [stOf]; omega)
    have hcr : (stOf S Z).isCut (S.l[i]).src (S.l[i]).dst = S.isCut (S.l[i]).src (S.l[i]).dst := hC _ _
    rw [hcr] at hcu
    rw [hi] at hf
    simp only [stA, stC, stOf] at hf hwo hcu
    simp only [hg]
    cases hq : S.isCut (S.l[i]).src (S.l[i]).dst with
    | true =>
      rw [hq] at hcu
      refine ⟨b1, b2, Z, evC_intro c18 hT.h18 rfl ?_, hC, by omega⟩
      simp [c18, e_ob2, frz_free, frz_map, AV.frz, AV.frz0, kill_free, kill_map, AV.kill, AV.kill0, killE_at, killM_at, Slot.kill_v, Slot.kill_a, Slot.kill_mk, m_kill, m_kill0, e_rn, -Option.bind_some, ↓bind_some2, putE_at, setM_at, setO_at, stripE_at, stripM_at, Slot.strip_v, Slot.strip_a, Slot.strip_mk, An.strip, argE_at, noM_at, objE_at, m_init, m_put, m_put0, m_row, m_obj, m_strip, m_stripA, m_stripX, ↓seqK_nrm, ↓seqK_exit, ↓seqK_ret, ↓regK_at, ↓blkK_nrm, ↓blkK_exit, ↓blkK_ret, ↓condC_true, ↓condC_false, ↓guardC_bool, ↓guardC_tup, ↓r_skip, ↓r_seq, ↓r_reg, ↓r_cond, ↓r_block, ↓r_loop, ↓r_exit, ↓r_ret, ↓a_nrm, ↓a_exit, ↓a_ret, ↓o_nil, ↓o_cons, ↓s_plain, ↓s_guard, e_none, e_set, e_newp, e_newr, e_app, e_obj, e_mk, K.run, Opd.get, setRowC, AV.leaf, AV.whole, AV.cells, binC, mmC, eqC, natOf, loadC, loadI, Cl.okPtr, Cl.okMem, fillC, fin, finV, objAt, unname, resC, AV.free, AV.free0, AV.back, AV.backN, AV.isObj, AV.named, pack, lendAll, lend, objsOf, endC, AV.elems, Opd.an, zeroAn, elsOk_nil, elsOk_cons, elsOk_append, elsOk_map, elsOk_take, elsOk_drop, take_map_len, List.range_succ, List.range_zero, List.nil_append, List.cons_append, stA, stC, stOf, opC, hf, ht, c, hneg, hcu, hlt, Pkt.cv]
      rfl
    | false =>
      rw [hq] at hcu
      refine ⟨false, b2, Z, evC_intro c18 hT.h18 rfl ?_, hC.same rfl, by omega⟩
      simp [c18, e_ob2, frz_free, frz_map, AV.frz, AV.frz0, kill_free, kill_map, AV.kill, AV.kill0, killE_at, killM_at, Slot.kill_v, Slot.kill_a, Slot.kill_mk, m_kill, m_kill0, e_rn, -Option.bind_some, ↓bind_some2, putE_at, setM_at, setO_at, stripE_at, stripM_at, Slot.strip_v, Slot.strip_a, Slot.strip_mk, An.strip, argE_at, noM_at, objE_at, m_init, m_put, m_put0, m_row, m_obj, m_strip, m_stripA, m_stripX, ↓seqK_nrm, ↓seqK_exit, ↓seqK_ret, ↓regK_at, ↓blkK_nrm, ↓blkK_exit, ↓blkK_ret, ↓condC_true, ↓condC_false, ↓guardC_bool, ↓guardC_tup, ↓r_skip, ↓r_seq, ↓r_reg, ↓r_cond, ↓r_block, ↓r_loop, ↓r_exit, ↓r_ret, ↓a_nrm, ↓a_exit, ↓a_ret, ↓o_nil, ↓o_cons, ↓s_plain, ↓s_guard, e_none, e_set, e_newp, e_newr, e_app, e_obj, e_mk, K.run, Opd.get, setRowC, AV.leaf, AV.whole, AV.cells, binC, mmC, eqC, natOf, loadC, loadI, Cl.okPtr, Cl.okMem, fillC, fin, finV, objAt, unname, resC, AV.free, AV.free0, AV.back, AV.backN, AV.isObj, AV.named, pack, lendAll, lend, objsOf, endC, AV.elems, Opd.an, zeroAn, elsOk_nil, elsOk_cons, elsOk_append, elsOk_map, elsOk_take, elsOk_drop, take_map_len, List.range_succ, List.range_zero, List.nil_append, List.cons_append, stA, stC, stOf, opC, hf, ht, c, hneg, hcu, hwo, hlt, Pkt.cv]
      exact ⟨⟨rfl, rfl, rfl⟩, rfl⟩
theorem do_3 (c : o.kind % 6 = 3) : DoR T ext b1 b2 S Z o := by
  have hf := do_find (ext := ext) hT b1 b2 S Z o hI hlast hC hK ho
  have ht : o.kind.tmod 6 = o.kind % 6 := Int.tmod_eq_emod_of_nonneg ho.1
  have hlen := hI.len
  have e : S.exec o = ((S.copy o.id).1, ⟨(S.copy o.id).2.1, zeroP, 0, (S.copy o.id).2.2⟩) := by
    unfold Net.exec
    rw [if_neg (by omega), if_neg (by omega), if_neg (by omega), if_pos c]
  unfold DoR
  rw [e]
  unfold Net.copy
  cases hi : S.at_ o.id with
  | none => exact ⟨b1, b2, Z, do_x (ext := ext) hT b1 b2 S Z o hI hlast hC hK ho (by omega) (by omega) (by omega) hi, hC, by omega⟩
  | some i =>
    have hlt := (List.findIdx?_eq_some_iff_getElem.1 hi).1
    have hneg : ¬ (i : Int) < 0 := by omega
    have hg : S.l.getD i zeroP = S.l[i] := by simp [List.getD, hlt]
    rw [hi] at hf
    simp only [hg, Net.put]
    by_cases hl : S.l.length < 64
    · have hadd := radd_ev (ext := ext) hT.h34 b1 b2 (stOf S Z) S.l[i] hl ⟨by have := hI.last; simp only [stOf]; omega, by simp only [stOf]; omega⟩
      simp only [if_pos hl]
      refine ⟨false, b2, Z, evC_intro c18 hT.h18 rfl ?_, hC.same rfl, by omega⟩
      simp only [stA, stC, stOf, Pkt.cv, resA] at hadd hf
      simp [c18, e_ob2, frz_free, frz_map, AV.frz, AV.frz0, kill_free, kill_map, AV.kill, AV.kill0, killE_at, killM_at, Slot.kill_v, Slot.kill_a, Slot.kill_mk, m_kill, m_kill0, e_rn, -Option.bind_some, ↓bind_some2, putE_at, setM_at, setO_at, stripE_at, stripM_at, Slot.strip_v, Slot.strip_a, Slot.strip_mk, An.strip, argE_at, noM_at, objE_at, m_init, m_put, m_put0, m_row, m_obj, m_strip, m_stripA, m_stripX, ↓seqK_nrm, ↓seqK_exit, ↓seqK_ret, ↓regK_at, ↓blkK_nrm, ↓blkK_exit, ↓blkK_ret, ↓condC_true, ↓condC_false, ↓guardC_bool, ↓guardC_tup, ↓r_skip, ↓r_seq, ↓r_reg, ↓r_cond, ↓r_block, ↓r_loop, ↓r_exit, ↓r_ret, ↓a_nrm, ↓a_exit, ↓a_ret, ↓o_nil, ↓o_cons, ↓s_plain, ↓s_guard, e_none, e_set, e_newp, e_newr, e_app, e_obj, e_mk, K.run, Opd.get, setRowC, AV.leaf, AV.whole, AV.cells, binC, mmC, eqC, natOf, loadC, loadI, Cl.okPtr, Cl.okMem, fillC, fin, finV, objAt, unname, resC, AV.free, AV.free0, AV.back, AV.backN, AV.isObj, AV.named, pack, lendAll, lend, objsOf, endC, AV.elems, Opd.an, zeroAn, elsOk_nil, elsOk_cons, elsOk_append, elsOk_map, elsOk_take, elsOk_drop, take_map_len, List.range_succ, List.range_zero, List.nil_append, List.cons_append, stA, stC, stOf, opC, hf, ht, c, hneg, hadd, hlt, Pkt.cv]
      first | rfl | exact ⟨⟨rfl, rfl, by simp [Net.sent, Pkt.cv]⟩, rfl⟩
    · have hadd := radd_full (ext := ext) hT.h34 b1 b2 (stOf S Z) S.l[i] hl
      simp only [if_neg hl]
      refine ⟨b1, b2, Z, evC_intro c18 hT.h18 rfl ?_, hC, by omega⟩
      simp only [stA, stC, stOf, Pkt.cv, resA] at hadd hf
      simp [c18, e_ob2, frz_free, frz_map, AV.frz, AV.frz0, kill_free, kill_map, AV.kill, AV.kill0, killE_at, killM_at, Slot.kill_v, Slot.kill_a, Slot.kill_mk, m_kill, m_kill0, e_rn, -Option.bind_some, ↓bind_some2, putE_at, setM_at, setO_at, stripE_at, stripM_at, Slot.strip_v, Slot.strip_a, Slot.strip_mk, An.strip, argE_at, noM_at, objE_at, m_init, m_put, m_put0, m_row, m_obj, m_strip, m_stripA, m_stripX, ↓seqK_nrm, ↓seqK_exit, ↓seqK_ret, ↓regK_at, ↓blkK_nrm, ↓blkK_exit, ↓blkK_ret, ↓condC_true, ↓condC_false, ↓guardC_bool, ↓guardC_tup, ↓r_skip, ↓r_seq, ↓r_reg, ↓r_cond, ↓r_block, ↓r_loop, ↓r_exit, ↓r_ret, ↓a_nrm, ↓a_exit, ↓a_ret, ↓o_nil, ↓o_cons, ↓s_plain, ↓s_guard, e_none, e_set, e_newp, e_newr, e_app, e_obj, e_mk, K.run, Opd.get, setRowC, AV.leaf, AV.whole, AV.cells, binC, mmC, eqC, natOf, loadC, loadI, Cl.okPtr, Cl.okMem, fillC, fin, finV, objAt, unname, resC, AV.free, AV.free0, AV.back, AV.backN, AV.isObj, AV.named, pack, lendAll, lend, objsOf, endC, AV.elems, Opd.an, zeroAn, elsOk_nil, elsOk_cons, elsOk_append, elsOk_map, elsOk_take, elsOk_drop, take_map_len, List.range_succ, List.range_zero, List.nil_append, List.cons_append, stA, stC, stOf, opC, hf, ht, c, hneg, hadd, hlt, Pkt.cv]
      rfl
theorem rdo_ev : DoR T ext b1 b2 S Z o := by
  have h := ho.1
  by_cases c0 : o.kind % 6 = 0
  · exact do_0 hT b1 b2 S Z o hI hlast hC hK ho c0
  by_cases c1 : o.kind % 6 = 1
  · exact do_1 hT b1 b2 S Z o hI hlast hC hK ho c1
  by_cases c2 : o.kind % 6 = 2
  · exact do_2 hT b1 b2 S Z o hI hlast hC hK ho c2
  by_cases c3 : o.kind % 6 = 3
  · exact do_3 hT b1 b2 S Z o hI hlast hC hK ho c3
  by_cases c4 : o.kind % 6 = 4
  · exact do_4 hT b1 b2 S Z o hI hlast hC hK ho c4
  · exact do_5 hT b1 b2 S Z o hI hlast hC hK ho c0 c1 c2 c3 c4 (by omega)
end
end Go.Proofs.Ytinpinjjdkilpaa
/- What the calls of the network give on the machine. -/
namespace Go.Proofs.Ytinpinjjdkilpaa
open Go Go.RowKit
set_option linter.unusedSimpArgs false
section
variable {T : Nat → Option FnC}
/-- a call of do -/
theorem do_ev (hT : T 19 = none) (S : Net) (hI : S.Inv) (hlast : S.last ≤ 1000000) (o : Op) (ho : o.ok) : evC T netExt 19 [.ptr 0 0 0, .agg (opC o)] (some (encN S)) = some (resA (S.exec o).2, some (encN (S.exec o).1)) := by
  refine evC_ext hT ?_
  have h1 := hI.len
  have h2 := hI.last
  have h3 : S.l.length ≤ 100 ∧ 0 ≤ S.last ∧ S.last ≤ 1000000 ∧ 0 ≤ o.kind ∧ o.kind ≤ 255 := ⟨by omega, h2, hlast, ho.1, ho.2⟩
  simp [netExt, opC, decN_enc, h3]
theorem pending_ev (hT : T 14 = none) (S : Net) (hI : S.Inv) : evC T netExt 14 [.ptr 0 0 0] (some (encN S)) = some (pksA S.l, some (encN S)) := by
  refine evC_ext hT ?_
  have h1 := hI.len
  have h3 : S.l.length ≤ 100 := by omega
  simp [netExt, decN_enc, h3]
theorem awake_ev (hT : T 11 = none) : evC T netExt 11 [] none = some (.bool true, none) := evC_ext hT (by simp [netExt])
theorem begin_ev (hT : T 17 = none) (k : Int) (h : 0 ≤ k ∧ k ≤ 255) : evC T netExt 17 [.int .u8 k] none = some (.tup [.ptr 0 0 0, .agg [.int .i64 (newSt (1 + k % 5)).n, .int .i64 (newSt (1 + k % 5)).next, .sl true [], .sl true []], .bool true], some (encN (newNet (1 + k % 5)))) := evC_ext hT (by simp [netExt, h])
theorem exec_n (S : Net) (o : Op) : (S.exec o).1.n = S.n := by
  unfold Net.exec
  split
  · show (S.send o.a o.b o.data).1.n = S.n
    unfold Net.send Net.put
    split
    · split <;> rfl
    · rfl
  · split
    · show (S.deliver o.id).1.n = S.n
      unfold Net.deliver
      split
      · rfl
      · simp only; split <;> rfl
    · split
      · show (S.drop o.id).1.n = S.n
        unfold Net.drop
        split <;> rfl
      · split
        · show (S.copy o.id).1.n = S.n
          unfold Net.copy Net.put
          split
          · rfl
          · simp only; split <;> rfl
        · split
          · exact (setCut_same _ _ _ _).2.1
          · show (S.clear o.a).1.n = S.n
            unfold Net.clear
            split <;> rfl
theorem cut_ev (hT : T 21 = none) (S : Net) (a b : Int) (c : Bool) : evC T netExt 21 [.ptr 0 0 0, .int .i64 a, .int .i64 b, .bool c] (some (encN S)) = some (.int .i64 (S.setCut a b c).2, some (encN (S.setCut a b c).1)) := by
  refine evC_ext hT ?_
  simp [netExt, decN_enc]
theorem ready_ev (hT : T 15 = none) (S : Net) (hI : S.Inv) : evC T netExt 15 [.ptr 0 0 0] (some (encN S)) = some (pksA S.ready, some (encN S)) := by
  refine evC_ext hT ?_
  have h1 := hI.len
  have h3 : S.l.length ≤ 100 := by omega
  simp [netExt, decN_enc, h3]
end
end Go.Proofs.Ytinpinjjdkilpaa
/- agrees, and the laws of the script and of errors, on the machine. -/
namespace Go.Proofs.Ytinpinjjdkilpaa
open Go Go.RowKit
def c20 : FnC := ⟨(.seq (.reg [⟨(.some 3), (.box 4 (.t 1)), .none⟩, ⟨(.some 4), (.mv (.c (.bool .false))), .none⟩]) (.seq (.reg [⟨(.some 5), (.mv (.t 0)), .none⟩, ⟨(.some 6), (.call .any 14 [(.t 5)]), .none⟩, ⟨(.some 7), (.faddr 2 (.t 3)), .none⟩, ⟨(.some 8), (.load .any .false 1 (.t 7)), .none⟩, ⟨(.some 9), (.call .any 22 [(.t 6), (.t 8)]), .none⟩, ⟨(.some 10), (.mv (.t 9)), .none⟩, ⟨(.some 11), (.mv (.t 0)), (.some (10, .true))⟩, ⟨(.some 12), (.call .any 15 [(.t 11)]), (.some (10, .true))⟩, ⟨(.some 13), (.load .any .true 4 (.t 3)), (.some (10, .true))⟩, ⟨(.some 14), (.call .any 38 [(.t 13)]), (.some (10, .true))⟩, ⟨(.some 15), (.call .any 22 [(.t 12), (.t 14)]), (.some (10, .true))⟩, ⟨(.some 16), (.pick (.t 10) (.t 15) (.c (.bool .false))), .none⟩, ⟨(.some 4), (.mv (.t 16)), .none⟩]) .ret)), [(.tmp 4)], 2, []⟩
def c4_1 : C := .seq (.reg [⟨(.some 31), (.bin .lss .false (.t 30) (.t 29)), .none⟩]) (.seq (.cond (.t 31) .skip (.exit 0)) (.seq (.block 1 (.seq (.reg [⟨(.some 32), (.iaddr 6 (.t 28) (.t 30)), .none⟩, ⟨(.some 33), (.load .any .true 6 (.t 32)), .none⟩, ⟨(.some 9), (.alloc [(.int .u8 0), (.int .i64 0), (.int .i64 0), (.int .i64 0), (.str (ByteArray.mk #[])), (.bool .false)]), .none⟩, ⟨.none, (.store .any .true 6 (.t 9) (.t 33)), .none⟩]) (.seq (.reg [⟨(.some 35), (.load .any .true 4 (.t 6)), .none⟩, ⟨(.some 36), (.load .any .true 6 (.t 9)), .none⟩, ⟨(.some 37), (.call .any 18 [(.t 35), (.t 36)]), .none⟩, ⟨(.some 34), (.mv (.t 37)), .none⟩, ⟨(.some 38), (.ext (.t 34) 0), .none⟩, ⟨(.some 39), (.ext (.t 34) 1), .none⟩, ⟨(.some 10), (.alloc [(.int .i64 0), (.int .i64 0), (.sl .true []), (.sl .true [])]), .none⟩, ⟨(.some 11), (.alloc [(.int .i64 0), (.int .i64 0), (.int .i64 0), (.int .i64 0), (.str (ByteArray.mk #[])), (.int .i64 0), (.int .i64 0)]), .none⟩, ⟨.none, (.store .any .true 4 (.t 10) (.t 38)), .none⟩, ⟨.none, (.store .any .true 7 (.t 11) (.t 39)), .none⟩]) (.seq (.seq (.reg [⟨(.some 40), (.mv (.t 5)), .none⟩, ⟨(.some 41), (.load .any .true 6 (.t 9)), .none⟩, ⟨(.some 42), (.call .any 19 [(.t 40), (.t 41)]), .none⟩, ⟨(.some 43), (.load .any .true 7 (.t 11)), .none⟩, ⟨(.some 44), (.eqa .true [0, 0, 0, 0, 1, 0, 0] (.t 42) (.t 43)), .none⟩, ⟨(.some 45), (.mv (.t 44)), .none⟩, ⟨(.some 46), (.mv (.t 5)), (.some (45, .false))⟩, ⟨(.some 47), (.load .any .true 4 (.t 10)), (.some (45, .false))⟩, ⟨(.some 48), (.call .any 20 [(.t 46), (.t 47)]), (.some (45, .false))⟩, ⟨(.some 49), (.un .not (.t 48)), (.some (45, .false))⟩, ⟨(.some 50), (.pick (.t 45) (.c (.bool .true)) (.t 49)), .none⟩]) (.cond (.t 50) (.seq (.reg [⟨(.some 4), (.mv (.c (.bool .false))), .none⟩]) .ret) .skip)) (.reg [⟨(.some 51), (.load .any .true 4 (.t 10)), .none⟩, ⟨.none, (.store .any .true 4 (.t 6) (.t 51)), .none⟩]))))) (.reg [⟨(.some 52), (.bin .add .false (.t 30) (.c (.int .i64 1))), .none⟩, ⟨(.some 30), (.mv (.t 52)), .none⟩])))
def c4 : FnC := ⟨(.seq (.reg [⟨(.some 4), (.mv (.c (.bool .false))), .none⟩]) (.seq (.seq (.reg [⟨(.some 12), (.call .any 11 []), .none⟩, ⟨(.some 13), (.un .not (.t 12)), .none⟩, ⟨(.some 14), (.mv (.t 13)), .none⟩, ⟨(.some 15), (.mv (.t 1)), (.some (14, .false))⟩, ⟨(.some 16), (.call .any 16 [(.t 15), (.c (.int .i64 30))]), (.some (14, .false))⟩, ⟨(.some 17), (.un .not (.t 16)), (.some (14, .false))⟩, ⟨(.some 18), (.pick (.t 14) (.c (.bool .true)) (.t 17)), .none⟩]) (.cond (.t 18) (.seq (.reg [⟨(.some 19), (.call .any 11 []), .none⟩, ⟨(.some 4), (.mv (.t 19)), .none⟩]) .ret) .skip)) (.seq (.reg [⟨(.some 21), (.mv (.t 0)), .none⟩, ⟨(.some 22), (.call .any 17 [(.t 21)]), .none⟩, ⟨(.some 20), (.mv (.t 22)), .none⟩, ⟨(.some 23), (.ext (.t 20) 0), .none⟩, ⟨(.some 24), (.ext (.t 20) 1), .none⟩, ⟨(.some 25), (.ext (.t 20) 2), .none⟩, ⟨(.some 6), (.alloc [(.int .i64 0), (.int .i64 0), (.sl .true []), (.sl .true [])]), .none⟩, ⟨(.some 5), (.mv (.t 23)), .none⟩, ⟨.none, (.store .any .true 4 (.t 6) (.t 24)), .none⟩, ⟨(.some 7), (.mv (.t 25)), .none⟩]) (.seq (.seq (.reg [⟨(.some 26), (.mv (.t 7)), .none⟩, ⟨(.some 27), (.un .not (.t 26)), .none⟩]) (.cond (.t 27) (.seq (.reg [⟨(.some 4), (.mv (.c (.bool .false))), .none⟩]) .ret) .skip)) (.seq (.seq (.reg [⟨(.some 28), (.mv (.t 1)), .none⟩, ⟨(.some 29), (.len .false (.t 28)), .none⟩, ⟨(.some 30), (.mv (.c (.int .i64 0))), .none⟩]) (.block 0 (.loop c4_1))) (.seq (.reg [⟨(.some 4), (.mv (.c (.bool .true))), .none⟩]) .ret)))))), [(.tmp 4)], 2, []⟩
def c10_1 : C := .seq (.reg [⟨(.some 42), (.bin .lss .false (.t 41) (.t 40)), .none⟩]) (.seq (.cond (.t 42) .skip (.exit 0)) (.seq (.block 1 (.seq (.reg [⟨(.some 43), (.iaddr 6 (.t 39) (.t 41)), .none⟩, ⟨(.some 44), (.load .any .true 6 (.t 43)), .none⟩, ⟨(.some 11), (.alloc [(.int .u8 0), (.int .i64 0), (.int .i64 0), (.int .i64 0), (.str (ByteArray.mk #[])), (.bool .false)]), .none⟩, ⟨.none, (.store .any .true 6 (.t 11) (.t 44)), .none⟩]) (.seq (.reg [⟨(.some 45), (.mv (.t 7)), .none⟩, ⟨(.some 46), (.load .any .true 6 (.t 11)), .none⟩, ⟨(.some 47), (.call .any 19 [(.t 45), (.t 46)]), .none⟩]) (.reg [⟨(.some 49), (.load .any .true 4 (.t 8)), .none⟩, ⟨(.some 50), (.load .any .true 6 (.t 11)), .none⟩, ⟨(.some 51), (.call .any 18 [(.t 49), (.t 50)]), .none⟩, ⟨(.some 48), (.mv (.t 51)), .none⟩, ⟨(.some 52), (.ext (.t 48) 0), .none⟩, ⟨(.some 53), (.ext (.t 48) 1), .none⟩, ⟨.none, (.store .any .true 4 (.t 8) (.t 52)), .none⟩])))) (.reg [⟨(.some 54), (.bin .add .false (.t 41) (.c (.int .i64 1))), .none⟩, ⟨(.some 41), (.mv (.t 54)), .none⟩])))
def c10 : FnC := ⟨(.seq (.reg [⟨(.some 5), (.box 6 (.t 2)), .none⟩, ⟨(.some 6), (.mv (.c (.bool .false))), .none⟩]) (.seq (.seq (.reg [⟨(.some 17), (.call .any 11 []), .none⟩, ⟨(.some 18), (.un .not (.t 17)), .none⟩, ⟨(.some 19), (.mv (.t 18)), .none⟩, ⟨(.some 20), (.mv (.t 1)), (.some (19, .false))⟩, ⟨(.some 21), (.call .any 16 [(.t 20), (.c (.int .i64 30))]), (.some (19, .false))⟩, ⟨(.some 22), (.un .not (.t 21)), (.some (19, .false))⟩, ⟨(.some 23), (.pick (.t 19) (.c (.bool .true)) (.t 22)), .none⟩, ⟨(.some 24), (.mv (.t 23)), .none⟩, ⟨(.some 25), (.faddr 4 (.t 5)), (.some (24, .false))⟩, ⟨(.some 26), (.load .any .false 1 (.t 25)), (.some (24, .false))⟩, ⟨(.some 27), (.len .true (.t 26)), (.some (24, .false))⟩, ⟨(.some 28), (.bin .gtr .false (.t 27) (.c (.int .i64 300))), (.some (24, .false))⟩, ⟨(.some 29), (.pick (.t 24) (.c (.bool .true)) (.t 28)), .none⟩]) (.cond (.t 29) (.seq (.reg [⟨(.some 30), (.call .any 11 []), .none⟩, ⟨(.some 6), (.mv (.t 30)), .none⟩]) .ret) .skip)) (.seq (.reg [⟨(.some 32), (.mv (.t 0)), .none⟩, ⟨(.some 33), (.call .any 17 [(.t 32)]), .none⟩, ⟨(.some 31), (.mv (.t 33)), .none⟩, ⟨(.some 34), (.ext (.t 31) 0), .none⟩, ⟨(.some 35), (.ext (.t 31) 1), .none⟩, ⟨(.some 36), (.ext (.t 31) 2), .none⟩, ⟨(.some 8), (.alloc [(.int .i64 0), (.int .i64 0), (.sl .true []), (.sl .true [])]), .none⟩, ⟨(.some 7), (.mv (.t 34)), .none⟩, ⟨.none, (.store .any .true 4 (.t 8) (.t 35)), .none⟩, ⟨(.some 9), (.mv (.t 36)), .none⟩]) (.seq (.seq (.reg [⟨(.some 37), (.mv (.t 9)), .none⟩, ⟨(.some 38), (.un .not (.t 37)), .none⟩]) (.cond (.t 38) (.seq (.reg [⟨(.some 6), (.mv (.c (.bool .false))), .none⟩]) .ret) .skip)) (.seq (.seq (.reg [⟨(.some 39), (.mv (.t 1)), .none⟩, ⟨(.some 40), (.len .false (.t 39)), .none⟩, ⟨(.some 41), (.mv (.c (.int .i64 0))), .none⟩]) (.block 0 (.loop c10_1))) (.seq (.reg [⟨(.some 55), (.mv (.t 7)), .none⟩, ⟨(.some 56), (.call .any 14 [(.t 55)]), .none⟩, ⟨(.some 57), (.mv (.t 7)), .none⟩, ⟨(.some 58), (.call .any 15 [(.t 57)]), .none⟩, ⟨(.some 12), (.mv (.t 56)), .none⟩, ⟨(.some 13), (.mv (.t 58)), .none⟩]) (.seq (.reg [⟨(.some 59), (.mv (.t 7)), .none⟩, ⟨(.some 60), (.load .any .true 6 (.t 5)), .none⟩, ⟨(.some 61), (.call .any 19 [(.t 59), (.t 60)]), .none⟩, ⟨(.some 14), (.alloc [(.int .i64 0), (.int .i64 0), (.int .i64 0), (.int .i64 0), (.str (ByteArray.mk #[])), (.int .i64 0), (.int .i64 0)]), .none⟩, ⟨.none, (.store .any .true 7 (.t 14) (.t 61)), .none⟩]) (.seq (.reg [⟨(.some 63), (.load .any .true 4 (.t 8)), .none⟩, ⟨(.some 64), (.load .any .true 6 (.t 5)), .none⟩, ⟨(.some 65), (.call .any 18 [(.t 63), (.t 64)]), .none⟩, ⟨(.some 62), (.mv (.t 65)), .none⟩, ⟨(.some 66), (.ext (.t 62) 0), .none⟩, ⟨(.some 67), (.ext (.t 62) 1), .none⟩, ⟨(.some 15), (.alloc [(.int .i64 0), (.int .i64 0), (.sl .true []), (.sl .true [])]), .none⟩, ⟨(.some 16), (.alloc [(.int .i64 0), (.int .i64 0), (.int .i64 0), (.int .i64 0), (.str (ByteArray.mk #[])), (.int .i64 0), (.int .i64 0)]), .none⟩, ⟨.none, (.store .any .true 4 (.t 15) (.t 66)), .none⟩, ⟨.none, (.store .any .true 7 (.t 16) (.t 67)), .none⟩]) (.seq (.seq (.reg [⟨(.some 68), (.load .any .true 7 (.t 14)), .none⟩, ⟨(.some 69), (.load .any .true 7 (.t 16)), .none⟩, ⟨(.some 70), (.eqa .true [0, 0, 0, 0, 1, 0, 0] (.t 68) (.t 69)), .none⟩, ⟨(.some 71), (.mv (.t 70)), .none⟩, ⟨(.some 72), (.faddr 6 (.t 14)), (.some (71, .false))⟩, ⟨(.some 73), (.load .any .false 1 (.t 72)), (.some (71, .false))⟩, ⟨(.some 74), (.bin .eql .false (.t 73) (.c (.int .i64 0))), (.some (71, .false))⟩, ⟨(.some 75), (.pick (.t 71) (.c (.bool .true)) (.t 74)), .none⟩]) (.cond (.t 75) (.seq (.reg [⟨(.some 76), (.load .any .true 7 (.t 14)), .none⟩, ⟨(.some 77), (.load .any .true 7 (.t 16)), .none⟩, ⟨(.some 78), (.eqa .false [0, 0, 0, 0, 1, 0, 0] (.t 76) (.t 77)), .none⟩, ⟨(.some 6), (.mv (.t 78)), .none⟩]) .ret) .skip)) (.seq (.reg [⟨(.some 79), (.mv (.t 7)), .none⟩, ⟨(.some 80), (.call .any 14 [(.t 79)]), .none⟩, ⟨(.some 81), (.mv (.t 12)), .none⟩, ⟨(.some 82), (.call .any 22 [(.t 80), (.t 81)]), .none⟩, ⟨(.some 83), (.mv (.t 82)), .none⟩, ⟨(.some 84), (.mv (.t 7)), (.some (83, .true))⟩, ⟨(.some 85), (.call .any 15 [(.t 84)]), (.some (83, .true))⟩, ⟨(.some 86), (.mv (.t 13)), (.some (83, .true))⟩, ⟨(.some 87), (.call .any 22 [(.t 85), (.t 86)]), (.some (83, .true))⟩, ⟨(.some 88), (.pick (.t 83) (.t 87) (.c (.bool .false))), .none⟩, ⟨(.some 6), (.mv (.t 88)), .none⟩]) .ret)))))))))), [(.tmp 6)], 3, []⟩
set_option maxRecDepth 10000
set_option maxHeartbeats 2000000
set_option linter.unusedSimpArgs false
set_option linter.unusedSectionVars false
section
variable {T : Nat → Option FnC}
structure LawT (T : Nat → Option FnC) : Prop extends RefT T where
  h11 : T 11 = none
  h17 : T 17 = none
  h19 : T 19 = none
  h14 : T 14 = none
  h15 : T 15 = none
  h16 : T 16 = some c16
  h22 : T 22 = some c22
  h38 : T 38 = some c38
  h20 : T 20 = some c20
theorem rdy_eq {S : Net} {Z : List (Int × Int)} (h : CutR S Z) : (stOf S Z).rdy = S.ready := by
  unfold St.rdy Net.ready
  congr 1
  funext p
  have : (stOf S Z).isCut p.src p.dst = S.isCut p.src p.dst := h _ _
  rw [this]
theorem agrees_ev (hT : LawT T) (b1 b2 : Bool) (S : Net) (Z : List (Int × Int)) (hI : S.Inv) (hC : CutR S Z) (hZ : Z.length ≤ 500) : evC T netExt 20 [.ptr 0 0 0, stA b1 b2 (stOf S Z)] (some (encN S)) = some (.bool true, some (encN S)) := by
  have hlen := hI.len
  have hp := pending_ev hT.h14 S hI
  have hr := ready_ev hT.h15 S hI
  have hrr := rready_ev (ext := netExt) hT.h45 hT.h36 hT.h38 b1 b2 (stOf S Z) (by simp only [stOf]; omega) (by simp only [stOf]; omega)
  rw [rdy_eq hC] at hrr
  have hs1 := same_ev (ext := netExt) hT.h22 false b1 S.l S.l (by omega)
  have hs2 := same_ev (ext := netExt) hT.h22 false S.ready.isEmpty S.ready S.ready (by have : S.ready.length ≤ S.l.length := List.length_filter_le ..; omega)
  simp only [decide_true] at hs1 hs2
  simp only [pksA] at hp hr
  simp only [stA, stC, stOf] at hrr
  generalize S.ready = R at hr hrr hs2
  refine evC_intro c20 hT.h20 rfl ?_
  simp [c20, e_ob2, frz_free, frz_map, AV.frz, AV.frz0, kill_free, kill_map, AV.kill, AV.kill0, killE_at, killM_at, Slot.kill_v, Slot.kill_a, Slot.kill_mk, m_kill, m_kill0, e_rn, -Option.bind_some, ↓bind_some2, putE_at, setM_at, setO_at, stripE_at, stripM_at, Slot.strip_v, Slot.strip_a, Slot.strip_mk, An.strip, argE_at, noM_at, objE_at, m_init, m_put, m_put0, m_row, m_obj, m_strip, m_stripA, m_stripX, ↓seqK_nrm, ↓seqK_exit, ↓seqK_ret, ↓regK_at, ↓blkK_nrm, ↓blkK_exit, ↓blkK_ret, ↓condC_true, ↓condC_false, ↓guardC_bool, ↓guardC_tup, ↓r_skip, ↓r_seq, ↓r_reg, ↓r_cond, ↓r_block, ↓r_loop, ↓r_exit, ↓r_ret, ↓a_nrm, ↓a_exit, ↓a_ret, ↓o_nil, ↓o_cons, ↓s_plain, ↓s_guard, e_none, e_set, e_newp, e_newr, e_app, e_obj, e_mk, K.run, Opd.get, setRowC, AV.leaf, AV.whole, AV.cells, binC, mmC, eqC, natOf, loadC, loadI, Cl.okPtr, Cl.okMem, fillC, fin, finV, objAt, unname, resC, AV.free, AV.free0, AV.back, AV.backN, AV.isObj, AV.named, pack, lendAll, lend, objsOf, endC, AV.elems, Opd.an, zeroAn, elsOk_nil, elsOk_cons, elsOk_append, elsOk_map, elsOk_take, elsOk_drop, take_map_len, List.range_succ, List.range_zero, List.nil_append, List.cons_append, stA, stC, stOf, hp, hr, hrr, hs1, hs2]
/-- do and Do answer alike -/
theorem eqC_res (r : Res) : eqC [0, 0, 0, 0, 1, 0, 0] [.int .i64 r.id, .int .i64 r.p.id, .int .i64 r.p.src, .int .i64 r.p.dst, .str r.p.data, .int .i64 r.n, .int .i64 r.e] [.int .i64 r.id, .int .i64 r.p.id, .int .i64 r.p.src, .int .i64 r.p.dst, .str r.p.data, .int .i64 r.n, .int .i64 r.e] = some true := by simp [eqC]
theorem script_lp (hT : LawT T) (nl : Bool) (L : List Op) (hlen : L.length ≤ 100) (hok : ∀ o ∈ L, o.ok) (r : RV) (k : Ex → MSt → Option RV) (hk : ∀ s, k (.exit 0) s = some r) :
    ∀ (n i : Nat) (S : Net) (Z : List (Int × Int)) (b1 b2 : Bool), i + n = L.length → S.Inv → S.last ≤ i → CutR S Z → Z.length ≤ i → ∀ s : MSt, (s.env 30).v = .int .i64 i → (s.env 29).v = .int .i64 L.length → (s.env 28).v = opsA nl L → (s.env 5).v = .ptr 22 3 0 → (s.env 6).v = .ptr 6 3 0 → s.mem 6 3 = some ((stC b1 b2 (stOf S Z)).map (⟨·, .no⟩)) → s.obj 22 3 = some (encN S) → evL T netExt c4_1 s k = some r := by
  intro n
  induction n with
  | zero =>
    intro i S Z b1 b2 hi hI hl hC hZ s e30 e29 e28 e5 e6 m6 ob
    obtain rfl : i = L.length := by omega
    refine evL_intro ?_
    simp [c4_1, e_ob2, frz_free, frz_map, AV.frz, AV.frz0, kill_free, kill_map, AV.kill, AV.kill0, killE_at, killM_at, Slot.kill_v, Slot.kill_a, Slot.kill_mk, m_kill, m_kill0, e_rn, -Option.bind_some, ↓bind_some2, putE_at, setM_at, setO_at, stripE_at, stripM_at, Slot.strip_v, Slot.strip_a, Slot.strip_mk, An.strip, argE_at, noM_at, objE_at, m_init, m_put, m_put0, m_row, m_obj, m_strip, m_stripA, m_stripX, ↓seqK_nrm, ↓seqK_exit, ↓seqK_ret, ↓regK_at, ↓blkK_nrm, ↓blkK_exit, ↓blkK_ret, ↓condC_true, ↓condC_false, ↓guardC_bool, ↓guardC_tup, ↓r_skip, ↓r_seq, ↓r_reg, ↓r_cond, ↓r_block, ↓r_loop, ↓r_exit, ↓r_ret, ↓a_nrm, ↓a_exit, ↓a_ret, ↓o_nil, ↓o_cons, ↓s_plain, ↓s_guard, e_none, e_set, e_newp, e_newr, e_app, e_obj, e_mk, K.run, Opd.get, setRowC, AV.leaf, AV.whole, AV.cells, binC, mmC, eqC, natOf, loadC, loadI, Cl.okPtr, Cl.okMem, fillC, fin, finV, objAt, unname, resC, AV.free, AV.free0, AV.back, AV.backN, AV.isObj, AV.named, pack, lendAll, lend, objsOf, endC, AV.elems, Opd.an, zeroAn, elsOk_nil, elsOk_cons, elsOk_append, elsOk_map, elsOk_take, elsOk_drop, take_map_len, List.range_succ, List.range_zero, List.nil_append, List.cons_append, e30, e29]
    exact hk _
  | succ n ih =>
    intro i S Z b1 b2 hi hI hl hC hZ s e30 e29 e28 e5 e6 m6 ob
    have hlt : i < L.length := by omega
    have hw : IntKind.i64.wrap ((i : Int) + 1) = ((i + 1 : Nat) : Int) := by rw [IntWalk.i64_in _ (by omega)]; rfl
    have ho := hok _ (List.getElem_mem hlt)
    have hdo := do_ev hT.h19 S hI (by omega) L[i] ho
    obtain ⟨d1, d2, Z', hrd, hC', hZ'⟩ := rdo_ev (ext := netExt) hT.toRefT b1 b2 S Z L[i] hI (by omega) hC (by omega) ho
    have hI' := (Net.exec_inv hI L[i]).1
    have hl' := Net.exec_last hI L[i]
    have hag := agrees_ev hT d1 d2 (S.exec L[i]).1 Z' hI' hC' (by omega)
    have hq := eqC_res (S.exec L[i]).2
    simp only [opC, resA, stA, stC] at hdo hrd hag
    simp only [stC, List.map_cons, List.map_nil] at m6
    refine evL_intro ?_
    simp [c4_1, e_ob2, frz_free, frz_map, AV.frz, AV.frz0, kill_free, kill_map, AV.kill, AV.kill0, killE_at, killM_at, Slot.kill_v, Slot.kill_a, Slot.kill_mk, m_kill, m_kill0, e_rn, -Option.bind_some, ↓bind_some2, putE_at, setM_at, setO_at, stripE_at, stripM_at, Slot.strip_v, Slot.strip_a, Slot.strip_mk, An.strip, argE_at, noM_at, objE_at, m_init, m_put, m_put0, m_row, m_obj, m_strip, m_stripA, m_stripX, ↓seqK_nrm, ↓seqK_exit, ↓seqK_ret, ↓regK_at, ↓blkK_nrm, ↓blkK_exit, ↓blkK_ret, ↓condC_true, ↓condC_false, ↓guardC_bool, ↓guardC_tup, ↓r_skip, ↓r_seq, ↓r_reg, ↓r_cond, ↓r_block, ↓r_loop, ↓r_exit, ↓r_ret, ↓a_nrm, ↓a_exit, ↓a_ret, ↓o_nil, ↓o_cons, ↓s_plain, ↓s_guard, e_none, e_set, e_newp, e_newr, e_app, e_obj, e_mk, K.run, Opd.get, setRowC, AV.leaf, AV.whole, AV.cells, binC, mmC, eqC, natOf, loadC, loadI, Cl.okPtr, Cl.okMem, fillC, fin, finV, objAt, unname, resC, AV.free, AV.free0, AV.back, AV.backN, AV.isObj, AV.named, pack, lendAll, lend, objsOf, endC, AV.elems, Opd.an, zeroAn, elsOk_nil, elsOk_cons, elsOk_append, elsOk_map, elsOk_take, elsOk_drop, take_map_len, List.range_succ, List.range_zero, List.nil_append, List.cons_append, e30, e29, e28, e5, e6, m6, hlt, opsA, opC, ob, hdo, hrd, hag, hq, hw]
    refine ih (i + 1) (S.exec L[i]).1 Z' d1 d2 (by omega) hI' (by omega) hC' (by omega) _ ?_ ?_ ?_ ?_ ?_ ?_ ?_ <;> simp [*, opsA, opC, stC]
theorem new_st (k : Int) (hk : 0 ≤ k) : newSt (1 + k % 5) = ⟨1 + k % 5, 1, [], []⟩ := by unfold newSt; rw [if_pos (by omega)]
theorem script_ev (hT : LawT T) (h4 : T 4 = some c4) (k : Int) (hk : 0 ≤ k ∧ k ≤ 255) (nl : Bool) (L : List Op) (hlen : L.length ≤ 9223372036854775807) (hok : ∀ o ∈ L, o.ok) : evC T netExt 4 [.int .u8 k, opsA nl L] none = some (.bool true, none) := by
  have ha := awake_ev hT.h11
  have hb := begin_ev hT.h17 k hk
  rw [new_st k hk.1] at hb
  have hf := few_ev (ext := netExt) hT.h16 nl L 30 hlen
  refine evC_intro c4 h4 rfl ?_
  cases hfb : fewB L 30 with
  | false =>
    rw [hfb] at hf
    simp only [opsA] at hf
    simp [c4, e_ob2, frz_free, frz_map, AV.frz, AV.frz0, kill_free, kill_map, AV.kill, AV.kill0, killE_at, killM_at, Slot.kill_v, Slot.kill_a, Slot.kill_mk, m_kill, m_kill0, e_rn, -Option.bind_some, ↓bind_some2, putE_at, setM_at, setO_at, stripE_at, stripM_at, Slot.strip_v, Slot.strip_a, Slot.strip_mk, An.strip, argE_at, noM_at, objE_at, m_init, m_put, m_put0, m_row, m_obj, m_strip, m_stripA, m_stripX, ↓seqK_nrm, ↓seqK_exit, ↓seqK_ret, ↓regK_at, ↓blkK_nrm, ↓blkK_exit, ↓blkK_ret, ↓condC_true, ↓condC_false, ↓guardC_bool, ↓guardC_tup, ↓r_skip, ↓r_seq, ↓r_reg, ↓r_cond, ↓r_block, ↓r_loop, ↓r_exit, ↓r_ret, ↓a_nrm, ↓a_exit, ↓a_ret, ↓o_nil, ↓o_cons, ↓s_plain, ↓s_guard, e_none, e_set, e_newp, e_newr, e_app, e_obj, e_mk, K.run, Opd.get, setRowC, AV.leaf, AV.whole, AV.cells, binC, mmC, eqC, natOf, loadC, loadI, Cl.okPtr, Cl.okMem, fillC, fin, finV, objAt, unname, resC, AV.free, AV.free0, AV.back, AV.backN, AV.isObj, AV.named, pack, lendAll, lend, objsOf, endC, AV.elems, Opd.an, zeroAn, elsOk_nil, elsOk_cons, elsOk_append, elsOk_map, elsOk_take, elsOk_drop, take_map_len, List.range_succ, List.range_zero, List.nil_append, List.cons_append, ha, hf, opsA]
  | true =>
    have hL : L.length ≤ 30 := by
      simp only [fewB, Bool.and_eq_true, decide_eq_true_eq] at hfb
      omega
    rw [hfb] at hf
    simp only [opsA] at hf
    simp [c4, e_ob2, frz_free, frz_map, AV.frz, AV.frz0, kill_free, kill_map, AV.kill, AV.kill0, killE_at, killM_at, Slot.kill_v, Slot.kill_a, Slot.kill_mk, m_kill, m_kill0, e_rn, -Option.bind_some, ↓bind_some2, putE_at, setM_at, setO_at, stripE_at, stripM_at, Slot.strip_v, Slot.strip_a, Slot.strip_mk, An.strip, argE_at, noM_at, objE_at, m_init, m_put, m_put0, m_row, m_obj, m_strip, m_stripA, m_stripX, ↓seqK_nrm, ↓seqK_exit, ↓seqK_ret, ↓regK_at, ↓blkK_nrm, ↓blkK_exit, ↓blkK_ret, ↓condC_true, ↓condC_false, ↓guardC_bool, ↓guardC_tup, ↓r_skip, ↓r_seq, ↓r_reg, ↓r_cond, ↓r_block, ↓r_loop, ↓r_exit, ↓r_ret, ↓a_nrm, ↓a_exit, ↓a_ret, ↓o_nil, ↓o_cons, ↓s_plain, ↓s_guard, e_none, e_set, e_newp, e_newr, e_app, e_obj, e_mk, K.run, Opd.get, setRowC, AV.leaf, AV.whole, AV.cells, binC, mmC, eqC, natOf, loadC, loadI, Cl.okPtr, Cl.okMem, fillC, fin, finV, objAt, unname, resC, AV.free, AV.free0, AV.back, AV.backN, AV.isObj, AV.named, pack, lendAll, lend, objsOf, endC, AV.elems, Opd.an, zeroAn, elsOk_nil, elsOk_cons, elsOk_append, elsOk_map, elsOk_take, elsOk_drop, take_map_len, List.range_succ, List.range_zero, List.nil_append, List.cons_append, ha, hf, hb, opsA]
    refine script_lp hT nl L (by omega) hok _ _ (fun s => ?main) L.length 0 (newNet (1 + k % 5)) [] true true (by simp) (Net.Inv.new _) (by simp [newNet]) (CutR.new _) (by simp) _ ?_ ?_ ?_ ?_ ?_ ?_ ?_
    case main => simp [e_ob2, frz_free, frz_map, AV.frz, AV.frz0, kill_free, kill_map, AV.kill, AV.kill0, killE_at, killM_at, Slot.kill_v, Slot.kill_a, Slot.kill_mk, m_kill, m_kill0, e_rn, -Option.bind_some, ↓bind_some2, putE_at, setM_at, setO_at, stripE_at, stripM_at, Slot.strip_v, Slot.strip_a, Slot.strip_mk, An.strip, argE_at, noM_at, objE_at, m_init, m_put, m_put0, m_row, m_obj, m_strip, m_stripA, m_stripX, ↓seqK_nrm, ↓seqK_exit, ↓seqK_ret, ↓regK_at, ↓blkK_nrm, ↓blkK_exit, ↓blkK_ret, ↓condC_true, ↓condC_false, ↓guardC_bool, ↓guardC_tup, ↓r_skip, ↓r_seq, ↓r_reg, ↓r_cond, ↓r_block, ↓r_loop, ↓r_exit, ↓r_ret, ↓a_nrm, ↓a_exit, ↓a_ret, ↓o_nil, ↓o_cons, ↓s_plain, ↓s_guard, e_none, e_set, e_newp, e_newr, e_app, e_obj, e_mk, K.run, Opd.get, setRowC, AV.leaf, AV.whole, AV.cells, binC, mmC, eqC, natOf, loadC, loadI, Cl.okPtr, Cl.okMem, fillC, fin, finV, objAt, unname, resC, AV.free, AV.free0, AV.back, AV.backN, AV.isObj, AV.named, pack, lendAll, lend, objsOf, endC, AV.elems, Opd.an, zeroAn, elsOk_nil, elsOk_cons, elsOk_append, elsOk_map, elsOk_take, elsOk_drop, take_map_len, List.range_succ, List.range_zero, List.nil_append, List.cons_append]
    all_goals simp [newNet, opsA, stC, stOf]
/-- the operations of the law of errors -/
theorem err_lp (hT : LawT T) (nl : Bool) (L : List Op) (hlen : L.length ≤ 100) (hok : ∀ o ∈ L, o.ok) (e0 : Slot) (row5 : List Slot) (r : RV) (k : Ex → MSt → Option RV)
    (hk : ∀ (s : MSt) (S : Net) (Z : List (Int × Int)) (b1 b2 : Bool), S.Inv → S.last ≤ 100 → CutR S Z → Z.length ≤ 100 → (s.env 7).v = .ptr 33 3 0 → (s.env 8).v = .ptr 8 3 0 → (s.env 5).v = .ptr 5 1 0 → s.mem 5 1 = some row5 → s.mem 8 3 = some ((stC b1 b2 (stOf S Z)).map (⟨·, .no⟩)) → s.obj 33 3 = some (encN S) → k (.exit 0) s = some r) :
    ∀ (n i : Nat) (S : Net) (Z : List (Int × Int)) (b1 b2 : Bool), i + n = L.length → S.Inv → S.last ≤ i → CutR S Z → Z.length ≤ i → ∀ s : MSt, (s.env 41).v = .int .i64 i → (s.env 40).v = .int .i64 L.length → (s.env 39).v = opsA nl L → (s.env 7).v = .ptr 33 3 0 → (s.env 8).v = .ptr 8 3 0 → (s.env 5).v = .ptr 5 1 0 → s.mem 5 1 = some row5 → s.mem 8 3 = some ((stC b1 b2 (stOf S Z)).map (⟨·, .no⟩)) → s.obj 33 3 = some (encN S) → evL T netExt c10_1 s k = some r := by
  intro n
  induction n with
  | zero =>
    intro i S Z b1 b2 hi hI hl hC hZ s e41 e40 e39 e7 e8 e5 m5 m8 ob
    obtain rfl : i = L.length := by omega
    refine evL_intro ?_
    simp [c10_1, e_ob2, frz_free, frz_map, AV.frz, AV.frz0, kill_free, kill_map, AV.kill, AV.kill0, killE_at, killM_at, Slot.kill_v, Slot.kill_a, Slot.kill_mk, m_kill, m_kill0, e_rn, -Option.bind_some, ↓bind_some2, putE_at, setM_at, setO_at, stripE_at, stripM_at, Slot.strip_v, Slot.strip_a, Slot.strip_mk, An.strip, argE_at, noM_at, objE_at, m_init, m_put, m_put0, m_row, m_obj, m_strip, m_stripA, m_stripX, ↓seqK_nrm, ↓seqK_exit, ↓seqK_ret, ↓regK_at, ↓blkK_nrm, ↓blkK_exit, ↓blkK_ret, ↓condC_true, ↓condC_false, ↓guardC_bool, ↓guardC_tup, ↓r_skip, ↓r_seq, ↓r_reg, ↓r_cond, ↓r_block, ↓r_loop, ↓r_exit, ↓r_ret, ↓a_nrm, ↓a_exit, ↓a_ret, ↓o_nil, ↓o_cons, ↓s_plain, ↓s_guard, e_none, e_set, e_newp, e_newr, e_app, e_obj, e_mk, K.run, Opd.get, setRowC, AV.leaf, AV.whole, AV.cells, binC, mmC, eqC, natOf, loadC, loadI, Cl.okPtr, Cl.okMem, fillC, fin, finV, objAt, unname, resC, AV.free, AV.free0, AV.back, AV.backN, AV.isObj, AV.named, pack, lendAll, lend, objsOf, endC, AV.elems, Opd.an, zeroAn, elsOk_nil, elsOk_cons, elsOk_append, elsOk_map, elsOk_take, elsOk_drop, take_map_len, List.range_succ, List.range_zero, List.nil_append, List.cons_append, e41, e40]
    refine hk _ S Z b1 b2 hI (by omega) hC (by omega) ?_ ?_ ?_ ?_ ?_ ?_ <;> simp [*]
  | succ n ih =>
    intro i S Z b1 b2 hi hI hl hC hZ s e41 e40 e39 e7 e8 e5 m5 m8 ob
    have hlt : i < L.length := by omega
    have hw : IntKind.i64.wrap ((i : Int) + 1) = ((i + 1 : Nat) : Int) := by rw [IntWalk.i64_in _ (by omega)]; rfl
    have ho := hok _ (List.getElem_mem hlt)
    have hdo := do_ev hT.h19 S hI (by omega) L[i] ho
    obtain ⟨d1, d2, Z', hrd, hC', hZ'⟩ := rdo_ev (ext := netExt) hT.toRefT b1 b2 S Z L[i] hI (by omega) hC (by omega) ho
    have hI' := (Net.exec_inv hI L[i]).1
    have hl' := Net.exec_last hI L[i]
    simp only [opC, resA, stA, stC] at hdo hrd
    simp only [stC, List.map_cons, List.map_nil] at m8
    refine evL_intro ?_
    simp [c10_1, e_ob2, frz_free, frz_map, AV.frz, AV.frz0, kill_free, kill_map, AV.kill, AV.kill0, killE_at, killM_at, Slot.kill_v, Slot.kill_a, Slot.kill_mk, m_kill, m_kill0, e_rn, -Option.bind_some, ↓bind_some2, putE_at, setM_at, setO_at, stripE_at, stripM_at, Slot.strip_v, Slot.strip_a, Slot.strip_mk, An.strip, argE_at, noM_at, objE_at, m_init, m_put, m_put0, m_row, m_obj, m_strip, m_stripA, m_stripX, ↓seqK_nrm, ↓seqK_exit, ↓seqK_ret, ↓regK_at, ↓blkK_nrm, ↓blkK_exit, ↓blkK_ret, ↓condC_true, ↓condC_false, ↓guardC_bool, ↓guardC_tup, ↓r_skip, ↓r_seq, ↓r_reg, ↓r_cond, ↓r_block, ↓r_loop, ↓r_exit, ↓r_ret, ↓a_nrm, ↓a_exit, ↓a_ret, ↓o_nil, ↓o_cons, ↓s_plain, ↓s_guard, e_none, e_set, e_newp, e_newr, e_app, e_obj, e_mk, K.run, Opd.get, setRowC, AV.leaf, AV.whole, AV.cells, binC, mmC, eqC, natOf, loadC, loadI, Cl.okPtr, Cl.okMem, fillC, fin, finV, objAt, unname, resC, AV.free, AV.free0, AV.back, AV.backN, AV.isObj, AV.named, pack, lendAll, lend, objsOf, endC, AV.elems, Opd.an, zeroAn, elsOk_nil, elsOk_cons, elsOk_append, elsOk_map, elsOk_take, elsOk_drop, take_map_len, List.range_succ, List.range_zero, List.nil_append, List.cons_append, e41, e40, e39, e7, e8, m8, hlt, opsA, opC, ob, hdo, hrd, hw]
    refine ih (i + 1) (S.exec L[i]).1 Z' d1 d2 (by omega) hI' (by omega) hC' (by omega) _ ?_ ?_ ?_ ?_ ?_ ?_ ?_ ?_ ?_ <;> simp [*, opsA, opC, stC]
theorem exec_err (S : Net) (o : Op) (he : (S.exec o).2.e ≠ 0) : (S.exec o).1 = S := by
  have h1 : ∀ a b d, (S.put a b d).2.2 ≠ 0 → (S.put a b d).1 = S := fun a b d h => by unfold Net.put at *; grind
  have h2 : ∀ a b d, (S.send a b d).2.2 ≠ 0 → (S.send a b d).1 = S := fun a b d h => by unfold Net.send at *; grind
  have h3 : ∀ i, (S.deliver i).2.2 ≠ 0 → (S.deliver i).1 = S := fun i h => by unfold Net.deliver at *; grind
  have h4 : ∀ i, (S.drop i).2 ≠ 0 → (S.drop i).1 = S := fun i h => by unfold Net.drop at *; grind
  have h5 : ∀ i, (S.copy i).2.2 ≠ 0 → (S.copy i).1 = S := fun i h => by unfold Net.copy at *; grind
  have h6 : ∀ a b c, (S.setCut a b c).2 ≠ 0 → (S.setCut a b c).1 = S := fun a b c h => by unfold Net.setCut at *; grind
  have h7 : ∀ a, (S.clear a).2.2 ≠ 0 → (S.clear a).1 = S := fun a h => by unfold Net.clear at *; grind
  unfold Net.exec at *
  grind
theorem errors_ev (hT : LawT T) (h10 : T 10 = some c10) (k : Int) (hk : 0 ≤ k ∧ k ≤ 255) (nl : Bool) (L : List Op) (hlen : L.length ≤ 9223372036854775807) (hok : ∀ o ∈ L, o.ok) (o : Op) (ho : o.ok) : evC T netExt 10 [.int .u8 k, opsA nl L, .agg (opC o)] none = some (.bool true, none) := by
  have ha := awake_ev hT.h11
  have hb := begin_ev hT.h17 k hk
  rw [new_st k hk.1] at hb
  have hf := few_ev (ext := netExt) hT.h16 nl L 30 hlen
  refine evC_intro c10 h10 rfl ?_
  cases hfb : fewB L 30 with
  | false =>
    rw [hfb] at hf
    simp only [opsA] at hf
    simp [c10, e_ob2, frz_free, frz_map, AV.frz, AV.frz0, kill_free, kill_map, AV.kill, AV.kill0, killE_at, killM_at, Slot.kill_v, Slot.kill_a, Slot.kill_mk, m_kill, m_kill0, e_rn, -Option.bind_some, ↓bind_some2, putE_at, setM_at, setO_at, stripE_at, stripM_at, Slot.strip_v, Slot.strip_a, Slot.strip_mk, An.strip, argE_at, noM_at, objE_at, m_init, m_put, m_put0, m_row, m_obj, m_strip, m_stripA, m_stripX, ↓seqK_nrm, ↓seqK_exit, ↓seqK_ret, ↓regK_at, ↓blkK_nrm, ↓blkK_exit, ↓blkK_ret, ↓condC_true, ↓condC_false, ↓guardC_bool, ↓guardC_tup, ↓r_skip, ↓r_seq, ↓r_reg, ↓r_cond, ↓r_block, ↓r_loop, ↓r_exit, ↓r_ret, ↓a_nrm, ↓a_exit, ↓a_ret, ↓o_nil, ↓o_cons, ↓s_plain, ↓s_guard, e_none, e_set, e_newp, e_newr, e_app, e_obj, e_mk, K.run, Opd.get, setRowC, AV.leaf, AV.whole, AV.cells, binC, mmC, eqC, natOf, loadC, loadI, Cl.okPtr, Cl.okMem, fillC, fin, finV, objAt, unname, resC, AV.free, AV.free0, AV.back, AV.backN, AV.isObj, AV.named, pack, lendAll, lend, objsOf, endC, AV.elems, Opd.an, zeroAn, elsOk_nil, elsOk_cons, elsOk_append, elsOk_map, elsOk_take, elsOk_drop, take_map_len, List.range_succ, List.range_zero, List.nil_append, List.cons_append, ha, hf, opsA, opC]
  | true =>
    have hL : L.length ≤ 30 := by
      simp only [fewB, Bool.and_eq_true, decide_eq_true_eq] at hfb
      omega
    rw [hfb] at hf
    simp only [opsA] at hf
    by_cases hd : o.data.size ≤ 300
    case neg =>
      have hd' : ¬ (o.data.size : Int) ≤ 300 := by omega
      have hd2 : (300 : Int) < (o.data.size : Int) := by omega
      simp [c10, e_ob2, frz_free, frz_map, AV.frz, AV.frz0, kill_free, kill_map, AV.kill, AV.kill0, killE_at, killM_at, Slot.kill_v, Slot.kill_a, Slot.kill_mk, m_kill, m_kill0, e_rn, -Option.bind_some, ↓bind_some2, putE_at, setM_at, setO_at, stripE_at, stripM_at, Slot.strip_v, Slot.strip_a, Slot.strip_mk, An.strip, argE_at, noM_at, objE_at, m_init, m_put, m_put0, m_row, m_obj, m_strip, m_stripA, m_stripX, ↓seqK_nrm, ↓seqK_exit, ↓seqK_ret, ↓regK_at, ↓blkK_nrm, ↓blkK_exit, ↓blkK_ret, ↓condC_true, ↓condC_false, ↓guardC_bool, ↓guardC_tup, ↓r_skip, ↓r_seq, ↓r_reg, ↓r_cond, ↓r_block, ↓r_loop, ↓r_exit, ↓r_ret, ↓a_nrm, ↓a_exit, ↓a_ret, ↓o_nil, ↓o_cons, ↓s_plain, ↓s_guard, e_none, e_set, e_newp, e_newr, e_app, e_obj, e_mk, K.run, Opd.get, setRowC, AV.leaf, AV.whole, AV.cells, binC, mmC, eqC, natOf, loadC, loadI, Cl.okPtr, Cl.okMem, fillC, fin, finV, objAt, unname, resC, AV.free, AV.free0, AV.back, AV.backN, AV.isObj, AV.named, pack, lendAll, lend, objsOf, endC, AV.elems, Opd.an, zeroAn, elsOk_nil, elsOk_cons, elsOk_append, elsOk_map, elsOk_take, elsOk_drop, take_map_len, List.range_succ, List.range_zero, List.nil_append, List.cons_append, ha, hf, opsA, opC, hd', hd2]
    have hd' : (o.data.size : Int) ≤ 300 := by omega
    have hd2 : ¬ (300 : Int) < (o.data.size : Int) := by omega
    simp [c10, e_ob2, frz_free, frz_map, AV.frz, AV.frz0, kill_free, kill_map, AV.kill, AV.kill0, killE_at, killM_at, Slot.kill_v, Slot.kill_a, Slot.kill_mk, m_kill, m_kill0, e_rn, -Option.bind_some, ↓bind_some2, putE_at, setM_at, setO_at, stripE_at, stripM_at, Slot.strip_v, Slot.strip_a, Slot.strip_mk, An.strip, argE_at, noM_at, objE_at, m_init, m_put, m_put0, m_row, m_obj, m_strip, m_stripA, m_stripX, ↓seqK_nrm, ↓seqK_exit, ↓seqK_ret, ↓regK_at, ↓blkK_nrm, ↓blkK_exit, ↓blkK_ret, ↓condC_true, ↓condC_false, ↓guardC_bool, ↓guardC_tup, ↓r_skip, ↓r_seq, ↓r_reg, ↓r_cond, ↓r_block, ↓r_loop, ↓r_exit, ↓r_ret, ↓a_nrm, ↓a_exit, ↓a_ret, ↓o_nil, ↓o_cons, ↓s_plain, ↓s_guard, e_none, e_set, e_newp, e_newr, e_app, e_obj, e_mk, K.run, Opd.get, setRowC, AV.leaf, AV.whole, AV.cells, binC, mmC, eqC, natOf, loadC, loadI, Cl.okPtr, Cl.okMem, fillC, fin, finV, objAt, unname, resC, AV.free, AV.free0, AV.back, AV.backN, AV.isObj, AV.named, pack, lendAll, lend, objsOf, endC, AV.elems, Opd.an, zeroAn, elsOk_nil, elsOk_cons, elsOk_append, elsOk_map, elsOk_take, elsOk_drop, take_map_len, List.range_succ, List.range_zero, List.nil_append, List.cons_append, ha, hf, hb, opsA, opC, hd', hd2]
    refine err_lp hT nl L (by omega) hok ⟨.undef, .no⟩ ((opC o).map (⟨·, .no⟩)) _ _ (fun s S Z b1 b2 hI hl hC hZ e7 e8 e5 m5 m8 ob => ?main) L.length 0 (newNet (1 + k % 5)) [] true true (by simp) (Net.Inv.new _) (by simp [newNet]) (CutR.new _) (by simp) _ ?_ ?_ ?_ ?_ ?_ ?_ ?_ ?_ ?_
    case main =>
      have hp := pending_ev hT.h14 S hI
      have hr := ready_ev hT.h15 S hI
      have hdo := do_ev hT.h19 S hI (by omega) o ho
      obtain ⟨d1, d2, Z', hrd, hC', hZ'⟩ := rdo_ev (ext := netExt) hT.toRefT b1 b2 S Z o hI (by omega) hC (by omega) ho
      have hq := eqC_res (S.exec o).2
      have hlen := hI.len
      have hs1 := same_ev (ext := netExt) hT.h22 false false S.l S.l (by omega)
      have hs2 := same_ev (ext := netExt) hT.h22 false false S.ready S.ready (by have : S.ready.length ≤ S.l.length := List.length_filter_le ..; omega)
      have hee := exec_err S o
      simp only [opC, resA, stA, stC, pksA, decide_true] at hdo hrd hp hr hs1 hs2
      simp only [stC, List.map_cons, List.map_nil] at m8
      simp only [opC, List.map_cons, List.map_nil] at m5
      by_cases he : (S.exec o).2.e = 0
      · simp [e_ob2, frz_free, frz_map, AV.frz, AV.frz0, kill_free, kill_map, AV.kill, AV.kill0, killE_at, killM_at, Slot.kill_v, Slot.kill_a, Slot.kill_mk, m_kill, m_kill0, e_rn, -Option.bind_some, ↓bind_some2, putE_at, setM_at, setO_at, stripE_at, stripM_at, Slot.strip_v, Slot.strip_a, Slot.strip_mk, An.strip, argE_at, noM_at, objE_at, m_init, m_put, m_put0, m_row, m_obj, m_strip, m_stripA, m_stripX, ↓seqK_nrm, ↓seqK_exit, ↓seqK_ret, ↓regK_at, ↓blkK_nrm, ↓blkK_exit, ↓blkK_ret, ↓condC_true, ↓condC_false, ↓guardC_bool, ↓guardC_tup, ↓r_skip, ↓r_seq, ↓r_reg, ↓r_cond, ↓r_block, ↓r_loop, ↓r_exit, ↓r_ret, ↓a_nrm, ↓a_exit, ↓a_ret, ↓o_nil, ↓o_cons, ↓s_plain, ↓s_guard, e_none, e_set, e_newp, e_newr, e_app, e_obj, e_mk, K.run, Opd.get, setRowC, AV.leaf, AV.whole, AV.cells, binC, mmC, eqC, natOf, loadC, loadI, Cl.okPtr, Cl.okMem, fillC, fin, finV, objAt, unname, resC, AV.free, AV.free0, AV.back, AV.backN, AV.isObj, AV.named, pack, lendAll, lend, objsOf, endC, AV.elems, Opd.an, zeroAn, elsOk_nil, elsOk_cons, elsOk_append, elsOk_map, elsOk_take, elsOk_drop, take_map_len, List.range_succ, List.range_zero, List.nil_append, List.cons_append, e7, e8, e5, m5, m8, ob, hp, hr, hdo, hrd, hq, pksA, he]
      · have h1 := hee he
        rw [h1] at hdo
        simp [e_ob2, frz_free, frz_map, AV.frz, AV.frz0, kill_free, kill_map, AV.kill, AV.kill0, killE_at, killM_at, Slot.kill_v, Slot.kill_a, Slot.kill_mk, m_kill, m_kill0, e_rn, -Option.bind_some, ↓bind_some2, putE_at, setM_at, setO_at, stripE_at, stripM_at, Slot.strip_v, Slot.strip_a, Slot.strip_mk, An.strip, argE_at, noM_at, objE_at, m_init, m_put, m_put0, m_row, m_obj, m_strip, m_stripA, m_stripX, ↓seqK_nrm, ↓seqK_exit, ↓seqK_ret, ↓regK_at, ↓blkK_nrm, ↓blkK_exit, ↓blkK_ret, ↓condC_true, ↓condC_false, ↓guardC_bool, ↓guardC_tup, ↓r_skip, ↓r_seq, ↓r_reg, ↓r_cond, ↓r_block, ↓r_loop, ↓r_exit, ↓r_ret, ↓a_nrm, ↓a_exit, ↓a_ret, ↓o_nil, ↓o_cons, ↓s_plain, ↓s_guard, e_none, e_set, e_newp, e_newr, e_app, e_obj, e_mk, K.run, Opd.get, setRowC, AV.leaf, AV.whole, AV.cells, binC, mmC, eqC, natOf, loadC, loadI, Cl.okPtr, Cl.okMem, fillC, fin, finV, objAt, unname, resC, AV.free, AV.free0, AV.back, AV.backN, AV.isObj, AV.named, pack, lendAll, lend, objsOf, endC, AV.elems, Opd.an, zeroAn, elsOk_nil, elsOk_cons, elsOk_append, elsOk_map, elsOk_take, elsOk_drop, take_map_len, List.range_succ, List.range_zero, List.nil_append, List.cons_append, e7, e8, e5, m5, m8, ob, hp, hr, hdo, hrd, hq, pksA, he, hs1, hs2]
    all_goals simp [newNet, opsA, stC, stOf, opC]
end
end Go.Proofs.Ytinpinjjdkilpaa
/- Results of the network that are the caller's own. -/
namespace Go.Proofs.Ytinpinjjdkilpaa
open Go Go.RowKit
theorem pkt_vals : ∀ l : List Pkt, (l.map Pkt.cv).flatten.map AV.scalV = pc l
  | [] => rfl
  | p :: r => by
    have ih := pkt_vals r
    rw [pc_cons, ← ih]
    simp [Pkt.cv, Pkt.cells, AV.scalV]
theorem pkt_els (l : List Pkt) : elsOk 4 (l.map Pkt.cv) = true := elsOk_map _ _ _ fun _ => rfl
theorem pkt_scal (l : List Pkt) : (l.map Pkt.cv).all (fun c => c.all AV.scal) = true := by simp [Pkt.cv, AV.scal]
theorem own_of_fresh {H : Nat → Prop} {p : Nat} {A : AV} {w w' : World} {l : List Pkt} {e : Ending} (hat : netObjs.at_ A H p w) (h : FreshP w l e w') :
    ∃ v H', e = .returned v ∧ OwnV w.heap.size H' w' (l.map Pkt.cv) v ∧ netObjs.at_ A H' p w' ∧ (∀ b, H' b → H b ∨ w.heap.size ≤ b) ∧ Keep H w w' := by
  obtain ⟨v, rfl, hown, hb, hfr⟩ := h
  refine ⟨v, H, rfl, ?_, netObjs.keep hat (fun b hH => hb.block b (netObjs.lt hat hH)) hb.size, fun b h => .inl h, Keep.of_below hb H⟩
  obtain ⟨hl, h⟩ := hown
  rcases h with ⟨rfl, h0⟩ | ⟨g, cap, cur, rfl, _, hg, hn, _, hcs, hx⟩
  · have : l = [] := List.eq_nil_of_length_eq_zero h0
    subst this
    exact .inl ⟨rfl, none, 0, rfl, fun _ => rfl⟩
  · have hgs := hfr g rfl
    refine .inr ⟨g, cap, cur, _, by rw [List.length_map], hgs, fun hH => ?_, hg, by simpa using hn, fun sz hels hpos => ?_, fun j x hj => ?_⟩
    · have := netObjs.lt hat hH; omega
    · have h4 := pkt_els l
      cases l with
      | nil => simp at hpos
      | cons q r =>
        rw [List.map_cons, elsOk_cons] at hels
        simp only [Bool.and_eq_true, decide_eq_true_eq] at hels
        have : sz = 4 := hels.1.symm
        subst this
        omega
    · have h1 : (pc l)[j]? = some x.scalV := by rw [← pkt_vals, List.getElem?_map, hj]; rfl
      rw [← hx, List.getElem?_take] at h1
      split at h1
      · simpa using h1
      · cases h1
section
variable {A : AV} {S : Net}
theorem own_pending (hd : decN A = some S) (h1 : S.l.length ≤ 100) : CallOwn Try.prog netObjs 14 [.ptr 0 0 0] (some A) (pksA S.l, some (encN S)) := by
  refine ⟨fun xs w => by kernel_rfl, fun av w vs p H hav hH hat hargs => ?_⟩
  simp only [RepA] at hargs
  obtain ⟨u1, us, rfl, hu1, rfl⟩ := hargs
  have e1 := obj_arg hu1
  subst e1
  obtain ⟨rfl, hN, hF⟩ := obj_pre (w := w) hat hd
  exact (pending_o hN h1).mono fun e w' h => own_of_fresh hat h
theorem own_ready (hd : decN A = some S) (h1 : S.l.length ≤ 100) : CallOwn Try.prog netObjs 15 [.ptr 0 0 0] (some A) (pksA S.ready, some (encN S)) := by
  refine ⟨fun xs w => by kernel_rfl, fun av w vs p H hav hH hat hargs => ?_⟩
  simp only [RepA] at hargs
  obtain ⟨u1, us, rfl, hu1, rfl⟩ := hargs
  have e1 := obj_arg hu1
  subst e1
  obtain ⟨rfl, hN, hF⟩ := obj_pre (w := w) hat hd
  exact (ready_o hN h1).mono fun e w' h => own_of_fresh hat h
end
/-- the contracts, and those of results that are the caller's own -/
def netOwn : CallT := fun f args S0 => match args with
  | .undef :: rest => if f = 14 then (match rest, S0.bind decN with
      | [.ptr 0 0 0], some S => if S.l.length ≤ 100 then some (pksA S.l, some (encN S)) else none
      | _, _ => none)
    else if f = 15 then (match rest, S0.bind decN with
      | [.ptr 0 0 0], some S => if S.l.length ≤ 100 then some (pksA S.ready, some (encN S)) else none
      | _, _ => none)
    else none
  | _ => netExt f args S0
theorem netExt_mark (f : Nat) (rest : List AV) (S0 : Option AV) : netExt f (.undef :: rest) S0 = none := by
  unfold netExt
  repeat' split
  all_goals first | rfl | (rename_i h _; cases h; done) | (rename_i h; cases h; done) | simp_all
theorem netOwn_mono (f : Nat) (args : List AV) (S0 : Option AV) (r : RV) (h : netExt f args S0 = some r) : netOwn f args S0 = some r := by
  unfold netOwn
  split
  · rw [netExt_mark] at h; cases h
  · exact h
theorem decn_bind {S0 : Option AV} {S : Net} (h : S0.bind decN = some S) : ∃ A, S0 = some A ∧ decN A = some S := Option.bind_eq_some_iff.1 h
theorem netOwn_ok (f : Nat) (args : List AV) (S0 : Option AV) (r : RV) (h : netOwn f args S0 = some r) : CallOk Try.prog netObjs f args S0 r := by
  unfold netOwn at h
  split at h
  · rename_i rest
    show CallOwn Try.prog netObjs f rest S0 r
    split at h
    · rename_i hf
      subst hf
      split at h
      · rename_i S hS
        obtain ⟨A, rfl, hd⟩ := decn_bind hS
        split at h
        · rename_i hl
          injection h with h
          subst h
          exact own_pending hd hl
        · cases h
      · cases h
    · split at h
      · rename_i hf
        subst hf
        split at h
        · rename_i S hS
          obtain ⟨A, rfl, hd⟩ := decn_bind hS
          split at h
          · rename_i hl
            injection h with h
            subst h
            exact own_ready hd hl
          · cases h
        · cases h
      · cases h
  · exact netExt_ok f args S0 r h
section
variable {T : Nat → Option FnC}
theorem pend_own (hT : T 14 = none) (S : Net) (hI : S.Inv) : evC T netOwn 14 [.undef, .ptr 0 0 0] (some (encN S)) = some (.sl false (S.l.map Pkt.cv), some (encN S)) := by
  refine evC_ext hT ?_
  have h1 := hI.len
  have h3 : S.l.length ≤ 100 := by omega
  simp [netOwn, decN_enc, h3, pksA]
theorem ready_own (hT : T 15 = none) (S : Net) (hI : S.Inv) : evC T netOwn 15 [.undef, .ptr 0 0 0] (some (encN S)) = some (.sl false (S.ready.map Pkt.cv), some (encN S)) := by
  refine evC_ext hT ?_
  have h1 := hI.len
  have h3 : S.l.length ≤ 100 := by omega
  simp [netOwn, decN_enc, h3, pksA]
end
end Go.Proofs.Ytinpinjjdkilpaa
/- NetworkOwn on the machine. -/
namespace Go.Proofs.Ytinpinjjdkilpaa
open Go Go.RowKit
def c9_1 : C := .seq (.reg [⟨(.some 62), (.bin .lss .false (.t 61) (.t 60)), .none⟩]) (.seq (.cond (.t 62) .skip (.exit 4)) (.seq (.block 5 (.seq (.reg [⟨(.some 63), (.mv (.t 61)), .none⟩, ⟨(.some 13), (.mv (.t 63)), .none⟩]) (.reg [⟨(.some 64), (.mv (.t 11)), .none⟩, ⟨(.some 65), (.mv (.t 13)), .none⟩, ⟨(.some 66), (.build [(.int .i64 0), (.int .i64 0), (.int .i64 0), (.str (ByteArray.mk #[]))] []), .none⟩, ⟨(.some 67), (.iaddr 4 (.t 64) (.t 65)), .none⟩, ⟨.none, (.store .any .true 4 (.t 67) (.t 66)), .none⟩]))) (.reg [⟨(.some 68), (.bin .add .false (.t 61) (.c (.int .i64 1))), .none⟩, ⟨(.some 61), (.mv (.t 68)), .none⟩])))
def c9_2 : C := .seq (.reg [⟨(.some 52), (.bin .lss .false (.t 51) (.t 50)), .none⟩]) (.seq (.cond (.t 52) .skip (.exit 2)) (.seq (.block 3 (.seq (.reg [⟨(.some 53), (.mv (.t 51)), .none⟩, ⟨(.some 12), (.mv (.t 53)), .none⟩]) (.reg [⟨(.some 54), (.mv (.t 10)), .none⟩, ⟨(.some 55), (.mv (.t 12)), .none⟩, ⟨(.some 56), (.build [(.int .i64 0), (.int .i64 0), (.int .i64 0), (.str (ByteArray.mk #[]))] []), .none⟩, ⟨(.some 57), (.iaddr 4 (.t 54) (.t 55)), .none⟩, ⟨.none, (.store .any .true 4 (.t 57) (.t 56)), .none⟩]))) (.reg [⟨(.some 58), (.bin .add .false (.t 51) (.c (.int .i64 1))), .none⟩, ⟨(.some 51), (.mv (.t 58)), .none⟩])))
def c9_3 : C := .seq (.reg [⟨(.some 33), (.bin .lss .false (.t 32) (.t 31)), .none⟩]) (.seq (.cond (.t 33) .skip (.exit 0)) (.seq (.block 1 (.seq (.reg [⟨(.some 34), (.iaddr 6 (.t 30) (.t 32)), .none⟩, ⟨(.some 35), (.load .any .true 6 (.t 34)), .none⟩, ⟨(.some 9), (.alloc [(.int .u8 0), (.int .i64 0), (.int .i64 0), (.int .i64 0), (.str (ByteArray.mk #[])), (.bool .false)]), .none⟩, ⟨.none, (.store .any .true 6 (.t 9) (.t 35)), .none⟩]) (.seq (.reg [⟨(.some 36), (.mv (.t 5)), .none⟩, ⟨(.some 37), (.load .any .true 6 (.t 9)), .none⟩, ⟨(.some 38), (.call .any 19 [(.t 36), (.t 37)]), .none⟩]) (.seq (.reg [⟨(.some 40), (.load .any .true 4 (.t 6)), .none⟩, ⟨(.some 41), (.load .any .true 6 (.t 9)), .none⟩, ⟨(.some 42), (.call .any 18 [(.t 40), (.t 41)]), .none⟩, ⟨(.some 39), (.mv (.t 42)), .none⟩, ⟨(.some 43), (.ext (.t 39) 0), .none⟩, ⟨(.some 44), (.ext (.t 39) 1), .none⟩, ⟨.none, (.store .any .true 4 (.t 6) (.t 43)), .none⟩]) (.seq (.reg [⟨(.some 45), (.mv (.t 5)), .none⟩, ⟨(.some 46), (.callf .any 14 4 [(.t 45)]), .none⟩, ⟨(.some 47), (.mv (.t 5)), .none⟩, ⟨(.some 48), (.callf .any 15 4 [(.t 47)]), .none⟩, ⟨(.some 10), (.mv (.t 46)), .none⟩, ⟨(.some 11), (.mv (.t 48)), .none⟩]) (.seq (.seq (.reg [⟨(.some 49), (.mv (.t 10)), .none⟩, ⟨(.some 50), (.len .false (.t 49)), .none⟩, ⟨(.some 51), (.mv (.c (.int .i64 0))), .none⟩]) (.block 2 (.loop c9_2))) (.seq (.reg [⟨(.some 59), (.mv (.t 11)), .none⟩, ⟨(.some 60), (.len .false (.t 59)), .none⟩, ⟨(.some 61), (.mv (.c (.int .i64 0))), .none⟩]) (.block 4 (.loop c9_1))))))))) (.reg [⟨(.some 69), (.bin .add .false (.t 32) (.c (.int .i64 1))), .none⟩, ⟨(.some 32), (.mv (.t 69)), .none⟩])))
def c9 : FnC := ⟨(.seq (.reg [⟨(.some 4), (.mv (.c (.bool .false))), .none⟩]) (.seq (.seq (.reg [⟨(.some 14), (.call .any 11 []), .none⟩, ⟨(.some 15), (.un .not (.t 14)), .none⟩, ⟨(.some 16), (.mv (.t 15)), .none⟩, ⟨(.some 17), (.mv (.t 1)), (.some (16, .false))⟩, ⟨(.some 18), (.call .any 16 [(.t 17), (.c (.int .i64 30))]), (.some (16, .false))⟩, ⟨(.some 19), (.un .not (.t 18)), (.some (16, .false))⟩, ⟨(.some 20), (.pick (.t 16) (.c (.bool .true)) (.t 19)), .none⟩]) (.cond (.t 20) (.seq (.reg [⟨(.some 21), (.call .any 11 []), .none⟩, ⟨(.some 4), (.mv (.t 21)), .none⟩]) .ret) .skip)) (.seq (.reg [⟨(.some 23), (.mv (.t 0)), .none⟩, ⟨(.some 24), (.call .any 17 [(.t 23)]), .none⟩, ⟨(.some 22), (.mv (.t 24)), .none⟩, ⟨(.some 25), (.ext (.t 22) 0), .none⟩, ⟨(.some 26), (.ext (.t 22) 1), .none⟩, ⟨(.some 27), (.ext (.t 22) 2), .none⟩, ⟨(.some 6), (.alloc [(.int .i64 0), (.int .i64 0), (.sl .true []), (.sl .true [])]), .none⟩, ⟨(.some 5), (.mv (.t 25)), .none⟩, ⟨.none, (.store .any .true 4 (.t 6) (.t 26)), .none⟩, ⟨(.some 7), (.mv (.t 27)), .none⟩]) (.seq (.seq (.reg [⟨(.some 28), (.mv (.t 7)), .none⟩, ⟨(.some 29), (.un .not (.t 28)), .none⟩]) (.cond (.t 29) (.seq (.reg [⟨(.some 4), (.mv (.c (.bool .false))), .none⟩]) .ret) .skip)) (.seq (.seq (.reg [⟨(.some 30), (.mv (.t 1)), .none⟩, ⟨(.some 31), (.len .false (.t 30)), .none⟩, ⟨(.some 32), (.mv (.c (.int .i64 0))), .none⟩]) (.block 0 (.loop c9_3))) (.seq (.reg [⟨(.some 70), (.mv (.t 5)), .none⟩, ⟨(.some 71), (.load .any .true 4 (.t 6)), .none⟩, ⟨(.some 72), (.call .any 20 [(.t 70), (.t 71)]), .none⟩, ⟨(.some 4), (.mv (.t 72)), .none⟩]) .ret)))))), [(.tmp 4)], 2, [92, 96]⟩
set_option maxRecDepth 10000
set_option maxHeartbeats 4000000
set_option linter.unusedSimpArgs false
def zeroC : List AV := [.int .i64 0, .int .i64 0, .int .i64 0, .str (ByteArray.mk #[])]
section
variable {T : Nat → Option FnC}
/-- what the first inner loop keeps -/
def Kp9 (q : Nat) (s0 s : MSt) : Prop := s.env 5 = s0.env 5 ∧ s.env 6 = s0.env 6 ∧ s.env 11 = s0.env 11 ∧ s.env 30 = s0.env 30 ∧ s.env 31 = s0.env 31 ∧ s.env 32 = s0.env 32 ∧ s.obj = s0.obj ∧ s.mem 6 3 = s0.mem 6 3 ∧ s.mem 48 q = s0.mem 48 q
theorem zero_a (q q2 len : Nat) (hlen : len ≤ 100) (r : RV) (k : Ex → MSt → Option RV) (s0 : MSt) (hk : ∀ s, Kp9 q2 s0 s → k (.exit 2) s = some r) :
    ∀ (n j : Nat) (R : List (List AV)), j + n = len → R.length = len → elsOk 4 R = true → ∀ s, Kp9 q2 s0 s → (s.env 10).v = .ref 46 q 4 0 len len → s.mem 46 q = some (rowOf R) → (s.env 50).v = .int .i64 len → (s.env 51).v = .int .i64 j → evL T netOwn c9_2 s k = some r := by
  intro n
  induction n with
  | zero =>
    intro j R hj hR hels s hK e10 em e50 e51
    obtain rfl : j = len := by omega
    refine evL_intro ?_
    simp [c9_2, e_ob2, frz_free, frz_map, AV.frz, AV.frz0, kill_free, kill_map, AV.kill, AV.kill0, killE_at, killM_at, Slot.kill_v, Slot.kill_a, Slot.kill_mk, m_kill, m_kill0, e_rn, -Option.bind_some, ↓bind_some2, putE_at, setM_at, setO_at, stripE_at, stripM_at, Slot.strip_v, Slot.strip_a, Slot.strip_mk, An.strip, argE_at, noM_at, objE_at, m_init, m_put, m_put0, m_row, m_obj, m_strip, m_stripA, m_stripX, ↓seqK_nrm, ↓seqK_exit, ↓seqK_ret, ↓regK_at, ↓blkK_nrm, ↓blkK_exit, ↓blkK_ret, ↓condC_true, ↓condC_false, ↓guardC_bool, ↓guardC_tup, ↓r_skip, ↓r_seq, ↓r_reg, ↓r_cond, ↓r_block, ↓r_loop, ↓r_exit, ↓r_ret, ↓a_nrm, ↓a_exit, ↓a_ret, ↓o_nil, ↓o_cons, ↓s_plain, ↓s_guard, e_none, e_set, e_newp, e_newr, e_app, e_obj, e_mk, K.run, Opd.get, setRowC_f, setRowC_t, AV.leaf, AV.whole, AV.cells, binC, mmC, eqC, natOf, loadC_f, loadC_t, loadI, Cl.okPtr, Cl.okMem, fillC, fin, finV, objAt, unname, resC, AV.free, AV.free0, AV.back, AV.backN, AV.isObj, AV.named, pack, lendAll, lend, objsOf, endC, AV.elems, Opd.an, zeroAn, elsOk_nil, elsOk_cons, elsOk_append, elsOk_map, elsOk_take, elsOk_drop, take_map_len, List.range_succ, List.range_zero, List.nil_append, List.cons_append, e50, e51]
    exact hk _ (by simpa [Kp9] using hK)
  | succ n ih =>
    intro j R hj hR hels s hK e10 em e50 e51
    have hlt : (j : Int) < len := by omega
    have hlt' : j < len := by omega
    have hw : IntKind.i64.wrap ((j : Int) + 1) = ((j + 1 : Nat) : Int) := by rw [IntWalk.i64_in _ (by omega)]; rfl
    have hst := rowOf_store hels (k := j) (by omega) (c := zeroC) rfl .no
    have hels' : elsOk 4 (R.set j zeroC) = true := by
      simp only [elsOk, List.all_eq_true] at hels ⊢
      intro c hc
      rcases List.mem_or_eq_of_mem_set hc with h | h
      · exact hels c h
      · subst h; rfl
    have hR' : (R.set j zeroC).length = len := by simp [hR]
    generalize hRow : rowOf R = R0 at *
    simp only [zeroC] at hst
    refine evL_intro ?_
    simp [c9_2, e_ob2, frz_free, frz_map, AV.frz, AV.frz0, kill_free, kill_map, AV.kill, AV.kill0, killE_at, killM_at, Slot.kill_v, Slot.kill_a, Slot.kill_mk, m_kill, m_kill0, e_rn, -Option.bind_some, ↓bind_some2, putE_at, setM_at, setO_at, stripE_at, stripM_at, Slot.strip_v, Slot.strip_a, Slot.strip_mk, An.strip, argE_at, noM_at, objE_at, m_init, m_put, m_put0, m_row, m_obj, m_strip, m_stripA, m_stripX, ↓seqK_nrm, ↓seqK_exit, ↓seqK_ret, ↓regK_at, ↓blkK_nrm, ↓blkK_exit, ↓blkK_ret, ↓condC_true, ↓condC_false, ↓guardC_bool, ↓guardC_tup, ↓r_skip, ↓r_seq, ↓r_reg, ↓r_cond, ↓r_block, ↓r_loop, ↓r_exit, ↓r_ret, ↓a_nrm, ↓a_exit, ↓a_ret, ↓o_nil, ↓o_cons, ↓s_plain, ↓s_guard, e_none, e_set, e_newp, e_newr, e_app, e_obj, e_mk, K.run, Opd.get, setRowC_f, setRowC_t, AV.leaf, AV.whole, AV.cells, binC, mmC, eqC, natOf, loadC_f, loadC_t, loadI, Cl.okPtr, Cl.okMem, fillC, fin, finV, objAt, unname, resC, AV.free, AV.free0, AV.back, AV.backN, AV.isObj, AV.named, pack, lendAll, lend, objsOf, endC, AV.elems, Opd.an, zeroAn, elsOk_nil, elsOk_cons, elsOk_append, elsOk_map, elsOk_take, elsOk_drop, take_map_len, List.range_succ, List.range_zero, List.nil_append, List.cons_append, e50, e51, e10, em, hlt, hlt', hst, hw]
    refine ih (j + 1) _ (by omega) hR' hels' _ (by simpa [Kp9] using hK) ?_ ?_ ?_ ?_ <;> simp [*, zeroC]
def Kp8 (s0 s : MSt) : Prop := s.env 5 = s0.env 5 ∧ s.env 6 = s0.env 6 ∧ s.env 30 = s0.env 30 ∧ s.env 31 = s0.env 31 ∧ s.env 32 = s0.env 32 ∧ s.obj = s0.obj ∧ s.mem 6 3 = s0.mem 6 3
theorem zero_b (q len : Nat) (hlen : len ≤ 100) (r : RV) (k : Ex → MSt → Option RV) (s0 : MSt) (hk : ∀ s, Kp8 s0 s → k (.exit 4) s = some r) :
    ∀ (n j : Nat) (R : List (List AV)), j + n = len → R.length = len → elsOk 4 R = true → ∀ s, Kp8 s0 s → (s.env 11).v = .ref 48 q 4 0 len len → s.mem 48 q = some (rowOf R) → (s.env 60).v = .int .i64 len → (s.env 61).v = .int .i64 j → evL T netOwn c9_1 s k = some r := by
  intro n
  induction n with
  | zero =>
    intro j R hj hR hels s hK e10 em e50 e51
    obtain rfl : j = len := by omega
    refine evL_intro ?_
    simp [c9_1, e_ob2, frz_free, frz_map, AV.frz, AV.frz0, kill_free, kill_map, AV.kill, AV.kill0, killE_at, killM_at, Slot.kill_v, Slot.kill_a, Slot.kill_mk, m_kill, m_kill0, e_rn, -Option.bind_some, ↓bind_some2, putE_at, setM_at, setO_at, stripE_at, stripM_at, Slot.strip_v, Slot.strip_a, Slot.strip_mk, An.strip, argE_at, noM_at, objE_at, m_init, m_put, m_put0, m_row, m_obj, m_strip, m_stripA, m_stripX, ↓seqK_nrm, ↓seqK_exit, ↓seqK_ret, ↓regK_at, ↓blkK_nrm, ↓blkK_exit, ↓blkK_ret, ↓condC_true, ↓condC_false, ↓guardC_bool, ↓guardC_tup, ↓r_skip, ↓r_seq, ↓r_reg, ↓r_cond, ↓r_block, ↓r_loop, ↓r_exit, ↓r_ret, ↓a_nrm, ↓a_exit, ↓a_ret, ↓o_nil, ↓o_cons, ↓s_plain, ↓s_guard, e_none, e_set, e_newp, e_newr, e_app, e_obj, e_mk, K.run, Opd.get, setRowC_f, setRowC_t, AV.leaf, AV.whole, AV.cells, binC, mmC, eqC, natOf, loadC_f, loadC_t, loadI, Cl.okPtr, Cl.okMem, fillC, fin, finV, objAt, unname, resC, AV.free, AV.free0, AV.back, AV.backN, AV.isObj, AV.named, pack, lendAll, lend, objsOf, endC, AV.elems, Opd.an, zeroAn, elsOk_nil, elsOk_cons, elsOk_append, elsOk_map, elsOk_take, elsOk_drop, take_map_len, List.range_succ, List.range_zero, List.nil_append, List.cons_append, e50, e51]
    exact hk _ (by simpa [Kp8] using hK)
  | succ n ih =>
    intro j R hj hR hels s hK e10 em e50 e51
    have hlt : (j : Int) < len := by omega
    have hlt' : j < len := by omega
    have hw : IntKind.i64.wrap ((j : Int) + 1) = ((j + 1 : Nat) : Int) := by rw [IntWalk.i64_in _ (by omega)]; rfl
    have hst := rowOf_store hels (k := j) (by omega) (c := zeroC) rfl .no
    have hels' : elsOk 4 (R.set j zeroC) = true := by
      simp only [elsOk, List.all_eq_true] at hels ⊢
      intro c hc
      rcases List.mem_or_eq_of_mem_set hc with h | h
      · exact hels c h
      · subst h; rfl
    have hR' : (R.set j zeroC).length = len := by simp [hR]
    generalize hRow : rowOf R = R0 at *
    simp only [zeroC] at hst
    refine evL_intro ?_
    simp [c9_1, e_ob2, frz_free, frz_map, AV.frz, AV.frz0, kill_free, kill_map, AV.kill, AV.kill0, killE_at, killM_at, Slot.kill_v, Slot.kill_a, Slot.kill_mk, m_kill, m_kill0, e_rn, -Option.bind_some, ↓bind_some2, putE_at, setM_at, setO_at, stripE_at, stripM_at, Slot.strip_v, Slot.strip_a, Slot.strip_mk, An.strip, argE_at, noM_at, objE_at, m_init, m_put, m_put0, m_row, m_obj, m_strip, m_stripA, m_stripX, ↓seqK_nrm, ↓seqK_exit, ↓seqK_ret, ↓regK_at, ↓blkK_nrm, ↓blkK_exit, ↓blkK_ret, ↓condC_true, ↓condC_false, ↓guardC_bool, ↓guardC_tup, ↓r_skip, ↓r_seq, ↓r_reg, ↓r_cond, ↓r_block, ↓r_loop, ↓r_exit, ↓r_ret, ↓a_nrm, ↓a_exit, ↓a_ret, ↓o_nil, ↓o_cons, ↓s_plain, ↓s_guard, e_none, e_set, e_newp, e_newr, e_app, e_obj, e_mk, K.run, Opd.get, setRowC_f, setRowC_t, AV.leaf, AV.whole, AV.cells, binC, mmC, eqC, natOf, loadC_f, loadC_t, loadI, Cl.okPtr, Cl.okMem, fillC, fin, finV, objAt, unname, resC, AV.free, AV.free0, AV.back, AV.backN, AV.isObj, AV.named, pack, lendAll, lend, objsOf, endC, AV.elems, Opd.an, zeroAn, elsOk_nil, elsOk_cons, elsOk_append, elsOk_map, elsOk_take, elsOk_drop, take_map_len, List.range_succ, List.range_zero, List.nil_append, List.cons_append, e50, e51, e10, em, hlt, hlt', hst, hw]
    refine ih (j + 1) _ (by omega) hR' hels' _ (by simpa [Kp8] using hK) ?_ ?_ ?_ ?_ <;> simp [*, zeroC]
def refOr (d q : Nat) (A : List (List AV)) : AV := if A.isEmpty then .sl false [] else .ref d q 4 0 A.length A.length
theorem loop_a (A : List (List AV)) (hA : A.length ≤ 100) (eA : elsOk 4 A = true) (q q2 : Nat) (r : RV) (k : Ex → MSt → Option RV) (s : MSt) (e10 : (s.env 10).v = refOr 46 q A) (mA : A.isEmpty = false → s.mem 46 q = some (rowOf A)) (e50 : (s.env 50).v = .int .i64 A.length) (e51 : (s.env 51).v = .int .i64 0)
    (hk : ∀ s', Kp9 q2 s s' → k (.exit 2) s' = some r) : (q = q2) → evL T netOwn c9_2 s k = some r := by
  rintro rfl
  cases hAe : A.isEmpty with
  | true =>
    have h0 : A = [] := by simpa using hAe
    subst h0
    refine evL_intro ?_
    simp at e50
    simp [c9_2, e_ob2, frz_free, frz_map, AV.frz, AV.frz0, kill_free, kill_map, AV.kill, AV.kill0, killE_at, killM_at, Slot.kill_v, Slot.kill_a, Slot.kill_mk, m_kill, m_kill0, e_rn, -Option.bind_some, ↓bind_some2, putE_at, setM_at, setO_at, stripE_at, stripM_at, Slot.strip_v, Slot.strip_a, Slot.strip_mk, An.strip, argE_at, noM_at, objE_at, m_init, m_put, m_put0, m_row, m_obj, m_strip, m_stripA, m_stripX, ↓seqK_nrm, ↓seqK_exit, ↓seqK_ret, ↓regK_at, ↓blkK_nrm, ↓blkK_exit, ↓blkK_ret, ↓condC_true, ↓condC_false, ↓guardC_bool, ↓guardC_tup, ↓r_skip, ↓r_seq, ↓r_reg, ↓r_cond, ↓r_block, ↓r_loop, ↓r_exit, ↓r_ret, ↓a_nrm, ↓a_exit, ↓a_ret, ↓o_nil, ↓o_cons, ↓s_plain, ↓s_guard, e_none, e_set, e_newp, e_newr, e_app, e_obj, e_mk, K.run, Opd.get, setRowC_f, setRowC_t, AV.leaf, AV.whole, AV.cells, binC, mmC, eqC, natOf, loadC_f, loadC_t, loadI, Cl.okPtr, Cl.okMem, fillC, fin, finV, objAt, unname, resC, AV.free, AV.free0, AV.back, AV.backN, AV.isObj, AV.named, pack, lendAll, lend, objsOf, endC, AV.elems, Opd.an, zeroAn, elsOk_nil, elsOk_cons, elsOk_append, elsOk_map, elsOk_take, elsOk_drop, take_map_len, List.range_succ, List.range_zero, List.nil_append, List.cons_append, e50, e51]
    exact hk _ (by simp [Kp9])
  | false =>
    rw [refOr, hAe, if_neg (by decide)] at e10
    exact zero_a q q A.length hA _ _ s hk A.length 0 A (by simp) rfl eA s (by simp [Kp9]) e10 (mA hAe) e50 e51
theorem loop_b (A : List (List AV)) (hA : A.length ≤ 100) (eA : elsOk 4 A = true) (q : Nat) (r : RV) (k : Ex → MSt → Option RV) (s : MSt) (e10 : (s.env 11).v = refOr 48 q A) (mA : A.isEmpty = false → s.mem 48 q = some (rowOf A)) (e50 : (s.env 60).v = .int .i64 A.length) (e51 : (s.env 61).v = .int .i64 0)
    (hk : ∀ s', Kp8 s s' → k (.exit 4) s' = some r) : evL T netOwn c9_1 s k = some r := by
  cases hAe : A.isEmpty with
  | true =>
    have h0 : A = [] := by simpa using hAe
    subst h0
    refine evL_intro ?_
    simp at e50
    simp [c9_1, e_ob2, frz_free, frz_map, AV.frz, AV.frz0, kill_free, kill_map, AV.kill, AV.kill0, killE_at, killM_at, Slot.kill_v, Slot.kill_a, Slot.kill_mk, m_kill, m_kill0, e_rn, -Option.bind_some, ↓bind_some2, putE_at, setM_at, setO_at, stripE_at, stripM_at, Slot.strip_v, Slot.strip_a, Slot.strip_mk, An.strip, argE_at, noM_at, objE_at, m_init, m_put, m_put0, m_row, m_obj, m_strip, m_stripA, m_stripX, ↓seqK_nrm, ↓seqK_exit, ↓seqK_ret, ↓regK_at, ↓blkK_nrm, ↓blkK_exit, ↓blkK_ret, ↓condC_true, ↓condC_false, ↓guardC_bool, ↓guardC_tup, ↓r_skip, ↓r_seq, ↓r_reg, ↓r_cond, ↓r_block, ↓r_loop, ↓r_exit, ↓r_ret, ↓a_nrm, ↓a_exit, ↓a_ret, ↓o_nil, ↓o_cons, ↓s_plain, ↓s_guard, e_none, e_set, e_newp, e_newr, e_app, e_obj, e_mk, K.run, Opd.get, setRowC_f, setRowC_t, AV.leaf, AV.whole, AV.cells, binC, mmC, eqC, natOf, loadC_f, loadC_t, loadI, Cl.okPtr, Cl.okMem, fillC, fin, finV, objAt, unname, resC, AV.free, AV.free0, AV.back, AV.backN, AV.isObj, AV.named, pack, lendAll, lend, objsOf, endC, AV.elems, Opd.an, zeroAn, elsOk_nil, elsOk_cons, elsOk_append, elsOk_map, elsOk_take, elsOk_drop, take_map_len, List.range_succ, List.range_zero, List.nil_append, List.cons_append, e50, e51]
    exact hk _ (by simp [Kp8])
  | false =>
    rw [refOr, hAe, if_neg (by decide)] at e10
    exact zero_b q A.length hA _ _ s hk A.length 0 A (by simp) rfl eA s (by simp [Kp8]) e10 (mA hAe) e50 e51
theorem own_lp (hT : LawT T) (nl : Bool) (L : List Op) (hlen : L.length ≤ 100) (hok : ∀ o ∈ L, o.ok) (r : RV) (k : Ex → MSt → Option RV)
    (hk : ∀ (S : Net) (Z : List (Int × Int)) (b1 b2 : Bool), S.Inv → CutR S Z → Z.length ≤ 200 → ∀ s : MSt, (s.env 5).v = .ptr 24 3 0 → (s.env 6).v = .ptr 6 3 0 → s.mem 6 3 = some ((stC b1 b2 (stOf S Z)).map (⟨·, .no⟩)) → s.obj 24 3 = some (encN S) → k (.exit 0) s = some r) :
    ∀ (n i : Nat) (S : Net) (Z : List (Int × Int)) (b1 b2 : Bool), i + n = L.length → S.Inv → S.last ≤ i → CutR S Z → Z.length ≤ i → ∀ s : MSt, (s.env 32).v = .int .i64 i → (s.env 31).v = .int .i64 L.length → (s.env 30).v = opsA nl L → (s.env 5).v = .ptr 24 3 0 → (s.env 6).v = .ptr 6 3 0 → s.mem 6 3 = some ((stC b1 b2 (stOf S Z)).map (⟨·, .no⟩)) → s.obj 24 3 = some (encN S) → evL T netOwn c9_3 s k = some r := by
  intro n
  induction n with
  | zero =>
    intro i S Z b1 b2 hi hI hl hC hZ s e30 e29 e28 e5 e6 m6 ob
    obtain rfl : i = L.length := by omega
    refine evL_intro ?_
    simp [c9_3, e_ob2, frz_free, frz_map, AV.frz, AV.frz0, kill_free, kill_map, AV.kill, AV.kill0, killE_at, killM_at, Slot.kill_v, Slot.kill_a, Slot.kill_mk, m_kill, m_kill0, e_rn, -Option.bind_some, ↓bind_some2, putE_at, setM_at, setO_at, stripE_at, stripM_at, Slot.strip_v, Slot.strip_a, Slot.strip_mk, An.strip, argE_at, noM_at, objE_at, m_init, m_put, m_put0, m_row, m_obj, m_strip, m_stripA, m_stripX, ↓seqK_nrm, ↓seqK_exit, ↓seqK_ret, ↓regK_at, ↓blkK_nrm, ↓blkK_exit, ↓blkK_ret, ↓condC_true, ↓condC_false, ↓guardC_bool, ↓guardC_tup, ↓r_skip, ↓r_seq, ↓r_reg, ↓r_cond, ↓r_block, ↓r_loop, ↓r_exit, ↓r_ret, ↓a_nrm, ↓a_exit, ↓a_ret, ↓o_nil, ↓o_cons, ↓s_plain, ↓s_guard, e_none, e_set, e_newp, e_newr, e_app, e_obj, e_mk, K.run, Opd.get, setRowC_f, setRowC_t, AV.leaf, AV.whole, AV.cells, binC, mmC, eqC, natOf, loadC_f, loadC_t, loadI, Cl.okPtr, Cl.okMem, fillC, fin, finV, objAt, unname, resC, AV.free, AV.free0, AV.back, AV.backN, AV.isObj, AV.named, pack, lendAll, lend, objsOf, endC, AV.elems, Opd.an, zeroAn, elsOk_nil, elsOk_cons, elsOk_append, elsOk_map, elsOk_take, elsOk_drop, take_map_len, List.range_succ, List.range_zero, List.nil_append, List.cons_append, e30, e29]
    exact hk S Z b1 b2 hI hC (by omega) _ (by simp [e5]) (by simp [e6]) (by simp [m6]) (by simp [ob])
  | succ n ih =>
    intro i S Z b1 b2 hi hI hl hC hZ s e30 e29 e28 e5 e6 m6 ob
    have hlt : i < L.length := by omega
    have hlt' : (i : Int) < L.length := by omega
    have hw : IntKind.i64.wrap ((i : Int) + 1) = ((i + 1 : Nat) : Int) := by rw [IntWalk.i64_in _ (by omega)]; rfl
    have ho := hok _ (List.getElem_mem hlt)
    have hg : (L.map opC)[i]? = some (opC L[i]) := by simp [hlt]
    generalize L[i] = o at *
    have hdo := evC_mono netOwn_mono (do_ev hT.h19 S hI (by omega) o ho)
    obtain ⟨d1, d2, Z', hrd, hC', hZ'⟩ := rdo_ev (ext := netOwn) hT.toRefT b1 b2 S Z o hI (by omega) hC (by omega) ho
    have hI' := (Net.exec_inv hI o).1
    have hl' := Net.exec_last hI o
    have p1 := pend_own hT.h14 (S.exec o).1 hI'
    have p2 := ready_own hT.h15 (S.exec o).1 hI'
    simp only [opC, resA, stA, stC] at hdo hrd
    simp only [opC] at hg
    simp only [stC, List.map_cons, List.map_nil] at m6
    have la : ((S.exec o).1.l.map Pkt.cv).length ≤ 100 := by have := hI'.len; simp; omega
    have lb : ((S.exec o).1.ready.map Pkt.cv).length ≤ 100 := by
      have := hI'.len
      have h2 : (S.exec o).1.ready.length ≤ (S.exec o).1.l.length := List.length_filter_le _ _
      simp; omega
    have ea := pkt_els (S.exec o).1.l
    have eb := pkt_els (S.exec o).1.ready
    have sa := pkt_scal (S.exec o).1.l
    have sb := pkt_scal (S.exec o).1.ready
    generalize (S.exec o).1.l.map Pkt.cv = A at *
    generalize (S.exec o).1.ready.map Pkt.cv = B at *
    generalize (S.exec o).1 = S' at *
    generalize (S.exec o).2 = R at *
    generalize hst : stOf S' Z' = st at *
    refine evL_intro ?_
    have sa' : ∀ x ∈ A, ∀ y ∈ x, y.scal = true := by simpa using sa
    have sb' : ∀ x ∈ B, ∀ y ∈ x, y.scal = true := by simpa using sb
    by_cases hA : A = [] <;> by_cases hB : B = []
    all_goals
      simp [c9_3, e_ob2, frz_free, frz_map, AV.frz, AV.frz0, kill_free, kill_map, AV.kill, AV.kill0, killE_at, killM_at, Slot.kill_v, Slot.kill_a, Slot.kill_mk, m_kill, m_kill0, e_rn, -Option.bind_some, ↓bind_some2, putE_at, setM_at, setO_at, stripE_at, stripM_at, Slot.strip_v, Slot.strip_a, Slot.strip_mk, An.strip, argE_at, noM_at, objE_at, m_init, m_put, m_put0, m_row, m_obj, m_strip, m_stripA, m_stripX, ↓seqK_nrm, ↓seqK_exit, ↓seqK_ret, ↓regK_at, ↓blkK_nrm, ↓blkK_exit, ↓blkK_ret, ↓condC_true, ↓condC_false, ↓guardC_bool, ↓guardC_tup, ↓r_skip, ↓r_seq, ↓r_reg, ↓r_cond, ↓r_block, ↓r_loop, ↓r_exit, ↓r_ret, ↓a_nrm, ↓a_exit, ↓a_ret, ↓o_nil, ↓o_cons, ↓s_plain, ↓s_guard, e_none, e_set, e_newp, e_newr, e_app, e_obj, e_mk, K.run, Opd.get, setRowC_f, setRowC_t, AV.leaf, AV.whole, AV.cells, binC, mmC, eqC, natOf, loadC_f, loadC_t, loadI, Cl.okPtr, Cl.okMem, fillC, fin, finV, objAt, unname, resC, AV.free, AV.free0, AV.back, AV.backN, AV.isObj, AV.named, pack, lendAll, lend, objsOf, endC, AV.elems, Opd.an, zeroAn, elsOk_nil, elsOk_cons, elsOk_append, elsOk_map, elsOk_take, elsOk_drop, take_map_len, List.range_succ, List.range_zero, List.nil_append, List.cons_append, e30, e29, e28, e5, e6, m6, hlt', opsA, hg, opC, ob, hdo, hrd, p1, p2, ea, eb, sa, sb, hA, hB, hw, -List.all_eq_true]
      refine loop_a A la ea (s.next + 4) (s.next + 4) _ _ _ ?_ ?_ ?_ ?_ (fun s' hK => ?_) rfl
      · simp [refOr, hA]
      · simp [hA]
      · simp [hA]
      · simp
      obtain ⟨h5, h6, h11, h30, h31, h32, hob, hm6, hm48⟩ := hK
      simp at h5 h6 h11 h30 h31 h32 hob hm6 hm48
      simp [e_ob2, frz_free, frz_map, AV.frz, AV.frz0, kill_free, kill_map, AV.kill, AV.kill0, killE_at, killM_at, Slot.kill_v, Slot.kill_a, Slot.kill_mk, m_kill, m_kill0, e_rn, -Option.bind_some, ↓bind_some2, putE_at, setM_at, setO_at, stripE_at, stripM_at, Slot.strip_v, Slot.strip_a, Slot.strip_mk, An.strip, argE_at, noM_at, objE_at, m_init, m_put, m_put0, m_row, m_obj, m_strip, m_stripA, m_stripX, ↓seqK_nrm, ↓seqK_exit, ↓seqK_ret, ↓regK_at, ↓blkK_nrm, ↓blkK_exit, ↓blkK_ret, ↓condC_true, ↓condC_false, ↓guardC_bool, ↓guardC_tup, ↓r_skip, ↓r_seq, ↓r_reg, ↓r_cond, ↓r_block, ↓r_loop, ↓r_exit, ↓r_ret, ↓a_nrm, ↓a_exit, ↓a_ret, ↓o_nil, ↓o_cons, ↓s_plain, ↓s_guard, e_none, e_set, e_newp, e_newr, e_app, e_obj, e_mk, K.run, Opd.get, setRowC_f, setRowC_t, AV.leaf, AV.whole, AV.cells, binC, mmC, eqC, natOf, loadC_f, loadC_t, loadI, Cl.okPtr, Cl.okMem, fillC, fin, finV, objAt, unname, resC, AV.free, AV.free0, AV.back, AV.backN, AV.isObj, AV.named, pack, lendAll, lend, objsOf, endC, AV.elems, Opd.an, zeroAn, elsOk_nil, elsOk_cons, elsOk_append, elsOk_map, elsOk_take, elsOk_drop, take_map_len, List.range_succ, List.range_zero, List.nil_append, List.cons_append, h11]
      refine loop_b B lb eb (s.next + 4) _ _ _ ?_ ?_ ?_ ?_ (fun s'' hK' => ?_)
      · simp [refOr, hB, h11]
      · simp [hB, hm48]
      · simp [hB]
      · simp
      obtain ⟨g5, g6, g30, g31, g32, gob, gm6⟩ := hK'
      simp at g5 g6 g30 g31 g32 gob gm6
      simp [e_ob2, frz_free, frz_map, AV.frz, AV.frz0, kill_free, kill_map, AV.kill, AV.kill0, killE_at, killM_at, Slot.kill_v, Slot.kill_a, Slot.kill_mk, m_kill, m_kill0, e_rn, -Option.bind_some, ↓bind_some2, putE_at, setM_at, setO_at, stripE_at, stripM_at, Slot.strip_v, Slot.strip_a, Slot.strip_mk, An.strip, argE_at, noM_at, objE_at, m_init, m_put, m_put0, m_row, m_obj, m_strip, m_stripA, m_stripX, ↓seqK_nrm, ↓seqK_exit, ↓seqK_ret, ↓regK_at, ↓blkK_nrm, ↓blkK_exit, ↓blkK_ret, ↓condC_true, ↓condC_false, ↓guardC_bool, ↓guardC_tup, ↓r_skip, ↓r_seq, ↓r_reg, ↓r_cond, ↓r_block, ↓r_loop, ↓r_exit, ↓r_ret, ↓a_nrm, ↓a_exit, ↓a_ret, ↓o_nil, ↓o_cons, ↓s_plain, ↓s_guard, e_none, e_set, e_newp, e_newr, e_app, e_obj, e_mk, K.run, Opd.get, setRowC_f, setRowC_t, AV.leaf, AV.whole, AV.cells, binC, mmC, eqC, natOf, loadC_f, loadC_t, loadI, Cl.okPtr, Cl.okMem, fillC, fin, finV, objAt, unname, resC, AV.free, AV.free0, AV.back, AV.backN, AV.isObj, AV.named, pack, lendAll, lend, objsOf, endC, AV.elems, Opd.an, zeroAn, elsOk_nil, elsOk_cons, elsOk_append, elsOk_map, elsOk_take, elsOk_drop, take_map_len, List.range_succ, List.range_zero, List.nil_append, List.cons_append, g32, h32, e30, hw]
      subst hst
      refine ih (i + 1) S' Z' d1 d2 (by omega) hI' (by omega) hC' (by omega) _ ?_ ?_ ?_ ?_ ?_ ?_ ?_ <;> simp [*, opsA, stC]
theorem own_ev (hT : LawT T) (h9 : T 9 = some c9) (k : Int) (hk : 0 ≤ k ∧ k ≤ 255) (nl : Bool) (L : List Op) (hlen : L.length ≤ 9223372036854775807) (hok : ∀ o ∈ L, o.ok) : evC T netOwn 9 [.int .u8 k, opsA nl L] none = some (.bool true, none) := by
  have ha := evC_mono netOwn_mono (awake_ev hT.h11)
  have hb := begin_ev hT.h17 k hk
  rw [new_st k hk.1] at hb
  have hb := evC_mono netOwn_mono hb
  have hf := few_ev (ext := netOwn) hT.h16 nl L 30 hlen
  refine evC_intro c9 h9 rfl ?_
  cases hfb : fewB L 30 with
  | false =>
    rw [hfb] at hf
    simp only [opsA] at hf
    simp [c9, e_ob2, frz_free, frz_map, AV.frz, AV.frz0, kill_free, kill_map, AV.kill, AV.kill0, killE_at, killM_at, Slot.kill_v, Slot.kill_a, Slot.kill_mk, m_kill, m_kill0, e_rn, -Option.bind_some, ↓bind_some2, putE_at, setM_at, setO_at, stripE_at, stripM_at, Slot.strip_v, Slot.strip_a, Slot.strip_mk, An.strip, argE_at, noM_at, objE_at, m_init, m_put, m_put0, m_row, m_obj, m_strip, m_stripA, m_stripX, ↓seqK_nrm, ↓seqK_exit, ↓seqK_ret, ↓regK_at, ↓blkK_nrm, ↓blkK_exit, ↓blkK_ret, ↓condC_true, ↓condC_false, ↓guardC_bool, ↓guardC_tup, ↓r_skip, ↓r_seq, ↓r_reg, ↓r_cond, ↓r_block, ↓r_loop, ↓r_exit, ↓r_ret, ↓a_nrm, ↓a_exit, ↓a_ret, ↓o_nil, ↓o_cons, ↓s_plain, ↓s_guard, e_none, e_set, e_newp, e_newr, e_app, e_obj, e_mk, K.run, Opd.get, setRowC_f, setRowC_t, AV.leaf, AV.whole, AV.cells, binC, mmC, eqC, natOf, loadC_f, loadC_t, loadI, Cl.okPtr, Cl.okMem, fillC, fin, finV, objAt, unname, resC, AV.free, AV.free0, AV.back, AV.backN, AV.isObj, AV.named, pack, lendAll, lend, objsOf, endC, AV.elems, Opd.an, zeroAn, elsOk_nil, elsOk_cons, elsOk_append, elsOk_map, elsOk_take, elsOk_drop, take_map_len, List.range_succ, List.range_zero, List.nil_append, List.cons_append, ha, hf, opsA]
  | true =>
    have hL : L.length ≤ 30 := by
      simp only [fewB, Bool.and_eq_true, decide_eq_true_eq] at hfb
      omega
    rw [hfb] at hf
    simp only [opsA] at hf
    simp [c9, e_ob2, frz_free, frz_map, AV.frz, AV.frz0, kill_free, kill_map, AV.kill, AV.kill0, killE_at, killM_at, Slot.kill_v, Slot.kill_a, Slot.kill_mk, m_kill, m_kill0, e_rn, -Option.bind_some, ↓bind_some2, putE_at, setM_at, setO_at, stripE_at, stripM_at, Slot.strip_v, Slot.strip_a, Slot.strip_mk, An.strip, argE_at, noM_at, objE_at, m_init, m_put, m_put0, m_row, m_obj, m_strip, m_stripA, m_stripX, ↓seqK_nrm, ↓seqK_exit, ↓seqK_ret, ↓regK_at, ↓blkK_nrm, ↓blkK_exit, ↓blkK_ret, ↓condC_true, ↓condC_false, ↓guardC_bool, ↓guardC_tup, ↓r_skip, ↓r_seq, ↓r_reg, ↓r_cond, ↓r_block, ↓r_loop, ↓r_exit, ↓r_ret, ↓a_nrm, ↓a_exit, ↓a_ret, ↓o_nil, ↓o_cons, ↓s_plain, ↓s_guard, e_none, e_set, e_newp, e_newr, e_app, e_obj, e_mk, K.run, Opd.get, setRowC_f, setRowC_t, AV.leaf, AV.whole, AV.cells, binC, mmC, eqC, natOf, loadC_f, loadC_t, loadI, Cl.okPtr, Cl.okMem, fillC, fin, finV, objAt, unname, resC, AV.free, AV.free0, AV.back, AV.backN, AV.isObj, AV.named, pack, lendAll, lend, objsOf, endC, AV.elems, Opd.an, zeroAn, elsOk_nil, elsOk_cons, elsOk_append, elsOk_map, elsOk_take, elsOk_drop, take_map_len, List.range_succ, List.range_zero, List.nil_append, List.cons_append, ha, hf, hb, opsA]
    refine own_lp hT nl L (by omega) hok _ _ (fun S Z b1 b2 hI hC hZ s e5 e6 m6 ob => ?main) L.length 0 (newNet (1 + k % 5)) [] true true (by simp) (Net.Inv.new _) (by simp [newNet]) (CutR.new _) (by simp) _ ?_ ?_ ?_ ?_ ?_ ?_ ?_
    case main =>
      have hag := evC_mono netOwn_mono (agrees_ev hT b1 b2 S Z hI hC (by omega))
      simp only [stA, stC] at hag
      simp only [stC, List.map_cons, List.map_nil] at m6
      simp [e_ob2, frz_free, frz_map, AV.frz, AV.frz0, kill_free, kill_map, AV.kill, AV.kill0, killE_at, killM_at, Slot.kill_v, Slot.kill_a, Slot.kill_mk, m_kill, m_kill0, e_rn, -Option.bind_some, ↓bind_some2, putE_at, setM_at, setO_at, stripE_at, stripM_at, Slot.strip_v, Slot.strip_a, Slot.strip_mk, An.strip, argE_at, noM_at, objE_at, m_init, m_put, m_put0, m_row, m_obj, m_strip, m_stripA, m_stripX, ↓seqK_nrm, ↓seqK_exit, ↓seqK_ret, ↓regK_at, ↓blkK_nrm, ↓blkK_exit, ↓blkK_ret, ↓condC_true, ↓condC_false, ↓guardC_bool, ↓guardC_tup, ↓r_skip, ↓r_seq, ↓r_reg, ↓r_cond, ↓r_block, ↓r_loop, ↓r_exit, ↓r_ret, ↓a_nrm, ↓a_exit, ↓a_ret, ↓o_nil, ↓o_cons, ↓s_plain, ↓s_guard, e_none, e_set, e_newp, e_newr, e_app, e_obj, e_mk, K.run, Opd.get, setRowC_f, setRowC_t, AV.leaf, AV.whole, AV.cells, binC, mmC, eqC, natOf, loadC_f, loadC_t, loadI, Cl.okPtr, Cl.okMem, fillC, fin, finV, objAt, unname, resC, AV.free, AV.free0, AV.back, AV.backN, AV.isObj, AV.named, pack, lendAll, lend, objsOf, endC, AV.elems, Opd.an, zeroAn, elsOk_nil, elsOk_cons, elsOk_append, elsOk_map, elsOk_take, elsOk_drop, take_map_len, List.range_succ, List.range_zero, List.nil_append, List.cons_append, e5, e6, m6, ob, hag]
    all_goals simp [e_ob2, frz_free, frz_map, AV.frz, AV.frz0, kill_free, kill_map, AV.kill, AV.kill0, killE_at, killM_at, Slot.kill_v, Slot.kill_a, Slot.kill_mk, m_kill, m_kill0, e_rn, -Option.bind_some, ↓bind_some2, putE_at, setM_at, setO_at, stripE_at, stripM_at, Slot.strip_v, Slot.strip_a, Slot.strip_mk, An.strip, argE_at, noM_at, objE_at, m_init, m_put, m_put0, m_row, m_obj, m_strip, m_stripA, m_stripX, ↓seqK_nrm, ↓seqK_exit, ↓seqK_ret, ↓regK_at, ↓blkK_nrm, ↓blkK_exit, ↓blkK_ret, ↓condC_true, ↓condC_false, ↓guardC_bool, ↓guardC_tup, ↓r_skip, ↓r_seq, ↓r_reg, ↓r_cond, ↓r_block, ↓r_loop, ↓r_exit, ↓r_ret, ↓a_nrm, ↓a_exit, ↓a_ret, ↓o_nil, ↓o_cons, ↓s_plain, ↓s_guard, e_none, e_set, e_newp, e_newr, e_app, e_obj, e_mk, K.run, Opd.get, setRowC_f, setRowC_t, AV.leaf, AV.whole, AV.cells, binC, mmC, eqC, natOf, loadC_f, loadC_t, loadI, Cl.okPtr, Cl.okMem, fillC, fin, finV, objAt, unname, resC, AV.free, AV.free0, AV.back, AV.backN, AV.isObj, AV.named, pack, lendAll, lend, objsOf, endC, AV.elems, Opd.an, zeroAn, elsOk_nil, elsOk_cons, elsOk_append, elsOk_map, elsOk_take, elsOk_drop, take_map_len, List.range_succ, List.range_zero, List.nil_append, List.cons_append, newNet, opsA, stC, stOf]
end
end Go.Proofs.Ytinpinjjdkilpaa
/- What the rows' arguments read as. -/
namespace Go.Proofs.Ytinpinjjdkilpaa
open Go Go.RowKit Go.ChangeShapes Go.WideShapes Go.ChangeAt
theorem mixed : Try.prog.follows .mixedOrders = true := by kernel_rfl
theorem ok16 : FnOk Try.prog 16 c16 := ⟨fun xs w => by kernel_rfl, _, Try.func16, by kernel_rfl⟩
theorem u8Ty {a : AV} (h : ParTy Try.prog 4 5 a) : ∃ k, a = .int .u8 k ∧ 0 ≤ k ∧ k ≤ 255 := by
  obtain ⟨sh, hs, h⟩ := h
  have hs' : shOf Try.prog 4 5 = some [.int .u8] := by kernel_rfl
  rw [hs'] at hs
  injection hs with hs
  subst hs
  rcases h with ⟨hw, _⟩ | ⟨_, h⟩
  · have hw' : wholeT Try.prog 5 = false := by kernel_rfl
    rw [hw'] at hw
    cases hw
  · simp only [TyL, TyC] at h
    obtain ⟨a, r, e, ⟨k, rfl, hk⟩, _⟩ := h
    injection e with e _
    simp only [Lit.wf, Bool.and_eq_true, decide_eq_true_eq] at hk
    have h1 : IntKind.u8.min = 0 := rfl
    have h2 : IntKind.u8.max = 255 := rfl
    exact ⟨k, e, by omega, by omega⟩
def opSh : List Cs := [.int .u8, .int .i64, .int .i64, .int .i64, .str, .bool]
theorem opTy {xs : List AV} (h : TyL opSh xs) : ∃ o : Op, xs = opC o ∧ o.ok := by
  simp only [opSh, TyL, TyC] at h
  obtain ⟨_, _, rfl, ⟨k, rfl, hk⟩, _, _, rfl, ⟨a, rfl, _⟩, _, _, rfl, ⟨b, rfl, _⟩, _, _, rfl, ⟨i, rfl, _⟩, _, _, rfl, ⟨s, rfl, _⟩, _, _, rfl, ⟨c, rfl⟩, rfl⟩ := h
  simp only [Lit.wf, Bool.and_eq_true, decide_eq_true_eq] at hk
  have h1 : IntKind.u8.min = 0 := rfl
  have h2 : IntKind.u8.max = 255 := rfl
  exact ⟨⟨k, a, b, i, s, c⟩, rfl, by show 0 ≤ k; omega, by show k ≤ 255; omega⟩
theorem opsTy {a : AV} (h : ParTy Try.prog 4 35 a) : ∃ nl L, a = opsA nl L ∧ L.length ≤ 9223372036854775807 ∧ ∀ o ∈ L, o.ok := by
  obtain ⟨sh, hs, h⟩ := h
  have hs' : shOf Try.prog 4 35 = some [.sl opSh] := by kernel_rfl
  rw [hs'] at hs
  injection hs with hs
  subst hs
  rcases h with ⟨hw, _⟩ | ⟨_, h⟩
  · have hw' : wholeT Try.prog 35 = false := by kernel_rfl
    rw [hw'] at hw
    cases hw
  · simp only [TyL, TyC] at h
    obtain ⟨a, r, e, ⟨nl, els, rfl, hle, hk⟩, _⟩ := h
    injection e with e _
    have : ∀ els : List (List AV), (∀ x ∈ els, TyL opSh x) → ∃ L : List Op, els = L.map opC ∧ ∀ o ∈ L, o.ok := fun els => by
      induction els with
      | nil => exact fun _ => ⟨[], rfl, fun _ h => by cases h⟩
      | cons x r ih =>
        intro h
        obtain ⟨o, rfl, ho⟩ := opTy (h x List.mem_cons_self)
        obtain ⟨L, rfl, hL⟩ := ih fun y hy => h y (List.mem_cons_of_mem _ hy)
        exact ⟨o :: L, rfl, fun p hp => by
          rcases List.mem_cons.1 hp with rfl | hp
          · exact ho
          · exact hL p hp⟩
    obtain ⟨L, rfl, hL⟩ := this els hk
    refine ⟨nl, L, e, ?_, hL⟩
    have : maxLen = 9223372036854775807 := rfl
    simpa [this] using hle
end Go.Proofs.Ytinpinjjdkilpaa
/- The functions that the machine runs, and more of what the rows' arguments read as. -/
namespace Go.Proofs.Ytinpinjjdkilpaa
open Go Go.RowKit Go.ChangeShapes Go.WideShapes Go.ChangeAt
/-- the functions that the machine runs, but for the law's own -/
def baseT : Nat → Option FnC := fun f => if f = 16 then some c16 else if f = 18 then some c18 else if f = 20 then some c20 else if f = 22 then some c22
  else if f = 32 then some c32 else if f = 33 then some c33 else if f = 34 then some c34 else if f = 35 then some c35
  else if f = 36 then some c36 else if f = 37 then some c37 else if f = 38 then some c38 else if f = 45 then some c45 else none
theorem ok18 : FnOk Try.prog 18 c18 := ⟨fun xs w => by kernel_rfl, _, Try.func18, by kernel_rfl⟩
theorem ok20 : FnOk Try.prog 20 c20 := ⟨fun xs w => by kernel_rfl, _, Try.func20, by kernel_rfl⟩
theorem ok22 : FnOk Try.prog 22 c22 := ⟨fun xs w => by kernel_rfl, _, Try.func22, by kernel_rfl⟩
theorem ok32 : FnOk Try.prog 32 c32 := ⟨fun xs w => by kernel_rfl, _, Try.func32, by kernel_rfl⟩
theorem ok33 : FnOk Try.prog 33 c33 := ⟨fun xs w => by kernel_rfl, _, Try.func33, by kernel_rfl⟩
theorem ok34 : FnOk Try.prog 34 c34 := ⟨fun xs w => by kernel_rfl, _, Try.func34, by kernel_rfl⟩
theorem ok35 : FnOk Try.prog 35 c35 := ⟨fun xs w => by kernel_rfl, _, Try.func35, by kernel_rfl⟩
theorem ok36 : FnOk Try.prog 36 c36 := ⟨fun xs w => by kernel_rfl, _, Try.func36, by kernel_rfl⟩
theorem ok37 : FnOk Try.prog 37 c37 := ⟨fun xs w => by kernel_rfl, _, Try.func37, by kernel_rfl⟩
theorem ok38 : FnOk Try.prog 38 c38 := ⟨fun xs w => by kernel_rfl, _, Try.func38, by kernel_rfl⟩
theorem ok45 : FnOk Try.prog 45 c45 := ⟨fun xs w => by kernel_rfl, _, Try.func45, by kernel_rfl⟩
theorem fn_step {f g : Nat} {c d : FnC} {r : Option FnC} (h : (if f = g then some d else r) = some c) (hd : FnOk Try.prog g d) (hr : r = some c → FnOk Try.prog f c) : FnOk Try.prog f c := by
  split at h
  · rename_i e; subst e; injection h with h; subst h; exact hd
  · exact hr h
theorem baseT_ok (f : Nat) (c : FnC) (h : baseT f = some c) : FnOk Try.prog f c :=
  fn_step h ok16 fun h => fn_step h ok18 fun h => fn_step h ok20 fun h => fn_step h ok22 fun h => fn_step h ok32 fun h => fn_step h ok33 fun h => fn_step h ok34 fun h => fn_step h ok35 fun h => fn_step h ok36 fun h => fn_step h ok37 fun h => fn_step h ok38 fun h => fn_step h ok45 fun h => by cases h
/-- with the law's own -/
def lawT (g : Nat) (d : FnC) : Nat → Option FnC := fun f => if f = g then some d else baseT f
theorem lawT_ok {g : Nat} {d : FnC} (hd : FnOk Try.prog g d) (f : Nat) (c : FnC) (h : lawT g d f = some c) : FnOk Try.prog f c := fn_step h hd (baseT_ok f c)
theorem opATy {a : AV} (h : ParTy Try.prog 4 40 a) : ∃ o : Op, a = .agg (opC o) ∧ o.ok := by
  obtain ⟨sh, hs, h⟩ := h
  have hs' : shOf Try.prog 4 40 = some opSh := by kernel_rfl
  rw [hs'] at hs
  injection hs with hs
  subst hs
  rcases h with ⟨_, l, rfl, h⟩ | ⟨hw, _⟩
  · obtain ⟨o, rfl, ho⟩ := opTy h
    exact ⟨o, rfl, ho⟩
  · have hw' : wholeT Try.prog 40 = true := by kernel_rfl
    rw [hw'] at hw
    cases hw
theorem u8sTy {a : AV} (h : ParTy Try.prog 4 50 a) : ∃ (nl : Bool) (M : List Int), a = .sl nl (M.map fun u => [.int .u8 u]) ∧ ∀ u ∈ M, 0 ≤ u ∧ u ≤ 255 := by
  obtain ⟨sh, hs, h⟩ := h
  have hs' : shOf Try.prog 4 50 = some [.sl [.int .u8]] := by kernel_rfl
  rw [hs'] at hs
  injection hs with hs
  subst hs
  rcases h with ⟨hw, _⟩ | ⟨_, h⟩
  · have hw' : wholeT Try.prog 50 = false := by kernel_rfl
    rw [hw'] at hw
    cases hw
  · simp only [TyL, TyC] at h
    obtain ⟨a, r, e, ⟨nl, els, rfl, hle, hk⟩, _⟩ := h
    injection e with e _
    have h1 : IntKind.u8.min = 0 := rfl
    have h2 : IntKind.u8.max = 255 := rfl
    have : ∀ els : List (List AV), (∀ x ∈ els, TyL [.int .u8] x) → ∃ L : List Int, els = L.map (fun u => [.int .u8 u]) ∧ ∀ u ∈ L, 0 ≤ u ∧ u ≤ 255 := fun els => by
      induction els with
      | nil => exact fun _ => ⟨[], rfl, fun _ h => by cases h⟩
      | cons x r ih =>
        intro h
        have hx := h x List.mem_cons_self
        simp only [TyL, TyC] at hx
        obtain ⟨_, _, rfl, ⟨u, rfl, hu⟩, rfl⟩ := hx
        obtain ⟨L, rfl, hL⟩ := ih fun y hy => h y (List.mem_cons_of_mem _ hy)
        simp only [Lit.wf, Bool.and_eq_true, decide_eq_true_eq, h1, h2] at hu
        exact ⟨u :: L, rfl, fun p hp => by
          rcases List.mem_cons.1 hp with rfl | hp
          · exact hu
          · exact hL p hp⟩
    have hels : ∀ x ∈ els, TyL [.int .u8] x := fun x hx => by simpa only [TyL, TyC] using hk x hx
    obtain ⟨L, rfl, hL⟩ := this els hels
    exact ⟨nl, L, e, hL⟩
end Go.Proofs.Ytinpinjjdkilpaa
/- sheavelaw48.NetworkOwn: for every input it returns true and leaves its input as it was. No condition. -/
namespace Go.Proofs.Ytinpinjjdkilpaa
open Go Go.RowKit Go.ChangeShapes Go.WideShapes Go.ChangeAt
theorem ok_law_NetworkOwn : FnOk Try.prog 9 c9 := ⟨fun xs w => by kernel_rfl, _, Try.func9, by kernel_rfl⟩
set_option maxRecDepth 100000 in
theorem networkOwn_lifted (os : Os) (started : os.Started) (H : Type) (enc : TypeId × Value → H) :
    ReturnsInHanded {} Try.checked os 9 .any (Rows.networkOwnSpec.pre6 enc Try.prog Try.f9 Rows.networkOwnRow.domain false) (Rows.networkOwnSpec.post enc Try.prog Try.f9 false true false false) := by
  refine returnsInHanded_of_change (C := Try.checked) own started (by kernel_rfl) Try.func9
    (ChangeSpec.witness6 (enc := enc) (C := Try.checked) false ⟨#[], #[.int .u8 0, .slice none 0 0], []⟩ 8 (by kernel_rfl) (by kernel_rfl) (by kernel_rfl) (by kernel_rfl)) ?_
  intro W base args ds gs before hval0 hW hcnd _
  have hval : ∀ (j : Nat) t v, Try.f9.params[j]? = some t → args[j]? = some v → Value.okWide Try.prog W .any base t v := hval0
  have hW' := hW
  obtain ⟨p, q, hA0, hV, rfl, hfz, hnd⟩ := hW
  have hA : DataW.TrodAll enc Try.prog W 0 (fun _ => true) true Try.f9.params.toList args.toList ds p := hA0
  rw [Try.params9] at hA hval
  have hA1 : DataW.TrodAll enc Try.prog W 0 (fun _ => true) true [5, 35] args.toList ds p := hA
  obtain ⟨xs, hx, hty⟩ := args_rep (k := 4) hA1 (fun j t v e e' => hval j t v (by simpa using e) (by simpa using e')) (by kernel_rfl)
  simp only [ArgsTy] at hty
  obtain ⟨a0, _, rfl, t0, a1, _, rfl, t1, rfl⟩ := hty
  obtain ⟨k, rfl, hk0, hk1⟩ := u8Ty t0
  obtain ⟨nl, L, rfl, hlen, hok⟩ := opsTy t1
  have hd : ∃ d0 d1, ds = [d0, d1] := by
    obtain ⟨_, _, d0, _, _, _, _, rfl, _, _, r0⟩ := trodAll_cons hA1
    obtain ⟨_, _, d1, _, _, _, _, rfl, _, _, r1⟩ := trodAll_cons r0
    obtain ⟨_, rfl, _⟩ := trodAll_nil r1
    exact ⟨d0, d1, rfl⟩
  obtain ⟨d0, d1, rfl⟩ := hd
  obtain ⟨rfl, rfl⟩ := trodVars_none hV
  have hev := own_ev (T := lawT 9 c9) ⟨⟨rfl, rfl, rfl, rfl, rfl, rfl, rfl, rfl⟩, rfl, rfl, rfl, rfl, rfl, rfl, rfl, rfl, rfl⟩ rfl k ⟨hk0, hk1⟩ nl L hlen hok
  have hC := (ev_sound mixed (lawT_ok ok_law_NetworkOwn) netOwn_ok hev).2 Av0 W args.toList (fun _ _ h => h.elim) hx
  rw [Array.toArray_toList] at hC
  refine hC.mono fun e W' ⟨v, he, hv, hb⟩ => ?_
  have hv' : v = .bool true := hv
  subst he
  subst hv'
  exact ⟨_, rfl, post_of_below (pa := p) (pv := []) hW' (fun _ _ _ => trodAll_cons_mk (shut_bool Try.underlying4 _) trodAll_mk0) (args_back laidOut hb hA1 (by kernel_rfl)) rfl hb⟩
theorem networkOwn_holds : Rows.NetworkOwnSaid :=
  OpenClaim.holds_of_wide 9 Try.f9 rfl rfl rfl rfl rfl rfl rfl ⟨rfl, rfl, rfl, rfl, rfl⟩ rfl rfl rfl rfl rfl (by kernel_rfl) Try.func9 (by kernel_rfl)
    (of_decide_eq_true (by kernel_rfl)) (by unfold Func.isWrapper; first | (rw [if_pos (by decide +kernel)]; kernel_rfl) | (rw [if_neg (by decide +kernel)]; exact ⟨rfl, rfl⟩))
    (fun os started H enc _ => networkOwn_lifted os started H enc)
end Go.Proofs.Ytinpinjjdkilpaa
