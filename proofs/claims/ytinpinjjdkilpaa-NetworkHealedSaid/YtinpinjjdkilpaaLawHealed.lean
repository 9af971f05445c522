/- sheavelaw48.NetworkHealed: for every input it returns true and leaves its input as it was. No condition. -/
import Derived.Test.YtinpinjjdkilpaaMb
import Derived.Test.YtinpinjjdkilpaaMd
/- The network as an object of the machine: its methods' contracts. -/
namespace Go.Proofs.Ytinpinjjdkilpaa
open Go Go.RowKit
def Pkt.cv (p : Pkt) : List AV := [.int .i64 p.id, .int .i64 p.src, .int .i64 p.dst, .str p.data]
def cutA (c : (Int × Int) × Bool) : AV := .agg [.int .i64 c.1.1, .int .i64 c.1.2, .bool c.2]
def pksA (l : List Pkt) : AV := .sl false (l.map Pkt.cv)
def encN (S : Net) : AV := .tup [.int .i64 S.n, .int .i64 S.last, pksA S.l, .tup (S.cut.map cutA)]
def decP : List AV → Option Pkt
  | [.int _ a, .int _ b, .int _ c, .str d] => some ⟨a, b, c, d⟩
  | _ => none
def decC : AV → Option ((Int × Int) × Bool)
  | .agg [.int _ a, .int _ b, .bool c] => some ((a, b), c)
  | _ => none
def decN : AV → Option Net
  | .tup [.int _ n, .int _ last, .sl _ l, .tup c] => some ⟨n, last, l.filterMap decP, c.filterMap decC⟩
  | _ => none
theorem decN_enc (S : Net) : decN (encN S) = some S := by
  obtain ⟨n, last, l, c⟩ := S
  have h1 : (l.map Pkt.cv).filterMap decP = l := by
    rw [List.filterMap_map]
    exact List.filterMap_some
  have h2 : (c.map cutA).filterMap decC = c := by
    rw [List.filterMap_map]
    exact List.filterMap_some
  simp only [encN, pksA, decN, h1, h2]
def netObjs : Objs where
  at_ A H p w := ∃ S m pk, A = encN S ∧ NetAt w p m pk S ∧ ∀ b, H b ↔ NetF p m pk b
  keep := fun {A H p w w'} h hb hs => by
    obtain ⟨S, m, pk, hA, h, hH⟩ := h
    have hk : Keep (fun b => ¬ H b) w { w' with os := w.os, tape := w.tape, output := w.output } := ⟨rfl, rfl, rfl, hs, fun k _ hn => hb k (Classical.not_not.1 hn)⟩
    have := h.keep hk fun b hf hn => hn ((hH b).2 hf)
    exact ⟨S, m, pk, hA, this, hH⟩
  main := fun {A H p w} h => by
    obtain ⟨S, m, pk, hA, h, hH⟩ := h
    exact (hH p).2 (.inl rfl)
  lt := fun {A H p w b} h hb => by
    obtain ⟨S, m, pk, hA, h, hH⟩ := h
    exact h.lt ((hH b).1 hb)
def resA (r : Res) : AV := .agg [.int .i64 r.id, .int .i64 r.p.id, .int .i64 r.p.src, .int .i64 r.p.dst, .str r.p.data, .int .i64 r.n, .int .i64 r.e]
def opA (o : Op) : AV := .agg [.int .u8 o.kind, .int .i64 o.a, .int .i64 o.b, .int .i64 o.id, .str o.data, .bool o.cut]
def netExt : CallT := fun f args S0 =>
  if f = 11 then match args, S0 with
    | [], none => some (.bool true, none)
    | _, _ => none
  else if f = 17 then match args, S0 with
    | [.int .u8 k], none => if 0 ≤ k ∧ k ≤ 255 then some (.tup [.ptr 0 0 0, .agg [.int .i64 (newSt (1 + k % 5)).n, .int .i64 (newSt (1 + k % 5)).next, .sl true [], .sl true []], .bool true], some (encN (newNet (1 + k % 5)))) else none
    | _, _ => none
  else if f = 19 then match args, S0.bind decN with
    | [.ptr 0 0 0, .agg [.int .u8 k, .int .i64 a, .int .i64 b, .int .i64 id, .str d, .bool c]], some S =>
      if S.l.length ≤ 100 ∧ 0 ≤ S.last ∧ S.last ≤ 1000000 ∧ 0 ≤ k ∧ k ≤ 255 then some (resA (S.exec ⟨k, a, b, id, d, c⟩).2, some (encN (S.exec ⟨k, a, b, id, d, c⟩).1)) else none
    | _, _ => none
  else if f = 14 then match args, S0.bind decN with
    | [.ptr 0 0 0], some S => if S.l.length ≤ 100 then some (pksA S.l, some (encN S)) else none
    | _, _ => none
  else if f = 15 then match args, S0.bind decN with
    | [.ptr 0 0 0], some S => if S.l.length ≤ 100 then some (pksA S.ready, some (encN S)) else none
    | _, _ => none
  else if f = 21 then match args, S0.bind decN with
    | [.ptr 0 0 0, .int .i64 a, .int .i64 b, .bool c], some S => some (.int .i64 (S.setCut a b c).2, some (encN (S.setCut a b c).1))
    | _, _ => none
  else none
section
variable {av : Av} {w w' : World}
theorem cv_rep (p : Pkt) : RepL av w p.cv p.cells := by
  exact ⟨_, _, rfl, rfl, rfl, _, _, rfl, rfl, rfl, _, _, rfl, rfl, rfl, _, _, rfl, rfl, rfl, rfl⟩
theorem pc_rep : ∀ (l : List Pkt), RepL av w (l.map Pkt.cv).flatten (pc l)
  | [] => by simp [RepL, pc]
  | p :: l => by
    rw [pc_cons, List.map_cons, List.flatten_cons]
    exact RepL_append (cv_rep p) (pc_rep l)
theorem pks_rep {v : Value} {l : List Pkt} (h : POwn w v l) (hav : ∀ b o, v.ownBlock = some b → ¬ av b o) : Rep av w (pksA l) v := by
  have hl := h.1
  have huni : ∀ x ∈ l.map Pkt.cv, ∀ y ∈ l.map Pkt.cv, x.length = y.length := fun x hx y hy => by
    obtain ⟨p, _, rfl⟩ := List.mem_map.1 hx
    obtain ⟨q, _, rfl⟩ := List.mem_map.1 hy
    rfl
  simp only [pksA, Rep, List.length_map]
  rcases h.2 with ⟨rfl, h0⟩ | ⟨g, cap, cur, rfl, hb, hg, hnc, _⟩
  · refine ⟨none, 0, by rw [h0], by omega, huni, (fun h => by cases h), fun _ => ⟨fun _ => rfl, fun h => by omega⟩⟩
  · refine ⟨_, cap, rfl, hnc, huni, (fun h => by cases h), fun _ => ⟨fun h => (by cases h), fun _ => ⟨g, 0, rfl, ?_⟩⟩⟩
    refine Rows_flat.2 (Cells_mk (pc_rep l) fun j u hu => ⟨?_, hav g _ rfl⟩)
    have := h.cells (g := g) rfl j u hu
    rw [Addr.add_lit] at this
    exact this
theorem res_rep (r : Res) : Rep av w (resA r) (resV r) := by
  exact ⟨_, rfl, _, _, rfl, rfl, rfl, _, _, rfl, rfl, rfl, _, _, rfl, rfl, rfl, _, _, rfl, rfl, rfl, _, _, rfl, rfl, rfl, _, _, rfl, rfl, rfl, _, _, rfl, rfl, rfl, rfl⟩
/-- how a method over the object ends -/
theorem obj_post {H : Nat → Prop} {p : Nat} {S' : Net} {v : Value} {e : Ending} (h : MO (fun b => H b ∨ w.heap.size ≤ b) p w S' v e w') :
    e = .returned v ∧ ∃ H', netObjs.at_ (encN S') H' p w' ∧ (∀ b, H' b → H b ∨ w.heap.size ≤ b) ∧ Keep H w w' := by
  obtain ⟨he, ⟨m, pk, hN, hG⟩, hk⟩ := h
  exact ⟨he, NetF p m pk, ⟨S', m, pk, rfl, hN, fun b => Iff.rfl⟩, hG, hk.mono fun i hi h => h.resolve_right (by omega)⟩
theorem obj_pre {H : Nat → Prop} {p : Nat} {A : AV} {S : Net} (h : netObjs.at_ A H p w) (hd : decN A = some S) : A = encN S ∧ NetO (fun b => H b ∨ w.heap.size ≤ b) p S w ∧ Fresh (fun b => H b ∨ w.heap.size ≤ b) w := by
  obtain ⟨S1, m, pk, rfl, hN, hH⟩ := h
  rw [decN_enc] at hd
  injection hd with hd
  subst hd
  exact ⟨rfl, ⟨m, pk, hN, fun b hb => .inl ((hH b).2 hb)⟩, fun b hb => .inr hb⟩
end
end Go.Proofs.Ytinpinjjdkilpaa
/- The contracts of the network's methods, for the machine. -/
namespace Go.Proofs.Ytinpinjjdkilpaa
open Go Go.RowKit
theorem ok_awake : CallOk Try.prog netObjs 11 [] none (.bool true, none) := by
  refine ⟨fun xs w => by kernel_rfl, fun av w vs hav hargs => ?_⟩
  simp only [RepA] at hargs
  subst hargs
  refine (awake_any w).mono ?_
  rintro e w' ⟨rfl, hb⟩
  exact ⟨_, rfl, rfl, hb⟩
theorem ok_begin (k : Int) (h0 : 0 ≤ k) (h1 : k ≤ 255) : CallOk Try.prog netObjs 17 [.int .u8 k] none (.tup [.ptr 0 0 0, .agg [.int .i64 (newSt (1 + k % 5)).n, .int .i64 (newSt (1 + k % 5)).next, .sl true [], .sl true []], .bool true], some (encN (newNet (1 + k % 5)))) := by
  refine ⟨fun xs w => by kernel_rfl, fun av w vs hav hargs => ?_⟩
  simp only [RepA] at hargs
  obtain ⟨u, us, rfl, hu, rfl⟩ := hargs
  have hu : u = .int .u8 k := hu
  subst hu
  refine (begin_any (fun b => w.heap.size ≤ b) k w (fun b hb => hb) h0 h1).mono ?_
  rintro e w' ⟨x, rfl, ⟨m, pk, hN, hG⟩, hb, hx⟩
  refine ⟨_, x, NetF x m pk, rfl, ?_, ⟨_, m, pk, rfl, hN, fun b => Iff.rfl⟩, hG, hb⟩
  refine ⟨_, rfl, _, _, rfl, rfl, _, _, rfl, ?_, _, _, rfl, rfl, rfl⟩
  have nil : ∀ {av : Av} {w : World}, Rep av w (.sl true []) (.slice none 0 0) := fun {av w} => ⟨none, 0, rfl, Nat.le_refl _, (fun _ h => by cases h), fun _ => ⟨rfl, rfl, rfl⟩, fun h => by cases h⟩
  exact ⟨_, rfl, _, _, rfl, rfl, rfl, _, _, rfl, rfl, rfl, _, _, rfl, nil, rfl, _, _, rfl, nil, rfl, rfl⟩
section
variable {A : AV} {S : Net}
/-- the argument that is the object -/
theorem obj_arg {p : Nat} {av avl : Av} {w : World} {u : Value} (h : RepS (Ix.one p) av avl w (.ptr 0 0 0) u) : u = .pointer (some ⟨p, 0, none⟩) := by
  obtain ⟨b, hb, hu⟩ := h
  have : (some p : Option Nat) = some b := hb
  injection this with this
  rw [hu, this]
theorem ok_do (hd : decN A = some S) (o : Op) (h1 : S.l.length ≤ 100) (h2 : 0 ≤ S.last) (h3 : S.last ≤ 1000000) (h4 : 0 ≤ o.kind ∧ o.kind ≤ 255) : CallOk Try.prog netObjs 19 [.ptr 0 0 0, opA o] (some A) (resA (S.exec o).2, some (encN (S.exec o).1)) := by
  refine ⟨fun xs w => by kernel_rfl, fun av w vs p H hav hH hat hargs => ?_⟩
  simp only [RepA] at hargs
  obtain ⟨u1, us, rfl, hu1, u2, us2, rfl, hu2, rfl⟩ := hargs
  have e1 := obj_arg hu1
  subst e1
  obtain ⟨xs, rfl, hc⟩ := hu2
  simp only [RepCL] at hc
  obtain ⟨a1, r1, e1, rfl, _, a2, r2, rfl, rfl, _, a3, r3, rfl, rfl, _, a4, r4, rfl, rfl, _, a5, r5, rfl, rfl, _, a6, r6, rfl, rfl, _, rfl⟩ := hc
  have e2 : xs = #[.int .u8 o.kind, .int .i64 o.a, .int .i64 o.b, .int .i64 o.id, .string o.data, .bool o.cut] := by rw [← Array.toArray_toList (xs := xs), e1]
  subst e2
  obtain ⟨rfl, hN, hF⟩ := obj_pre (w := w) hat hd
  refine (do_any _ p S o w hN hF h1 h2 h3 h4).mono fun e w' h => ?_
  obtain ⟨rfl, H', hat', hH', hk⟩ := obj_post h
  exact ⟨_, H', rfl, res_rep _, hat', hH', hk⟩
theorem fresh_ok {H : Nat → Prop} {p : Nat} {av : Av} {w w' : World} {l : List Pkt} {e : Ending} (hat : netObjs.at_ A H p w) (hav : ∀ b o, av b o → b < w.heap.size) (h : FreshP w l e w') :
    ∃ v H', e = .returned v ∧ Rep (fun b o => av b o ∨ H' b) w' (pksA l) v ∧ netObjs.at_ A H' p w' ∧ (∀ b, H' b → H b ∨ w.heap.size ≤ b) ∧ Keep H w w' := by
  obtain ⟨v, rfl, hown, hb, hfr⟩ := h
  refine ⟨v, H, rfl, pks_rep hown fun b o hv hx => ?_, netObjs.keep hat (fun b hH => hb.block b (netObjs.lt hat hH)) hb.size, fun b h => .inl h, Keep.of_below hb H⟩
  have := hfr b hv
  rcases hx with hx | hx
  · have := hav b o hx; omega
  · have := netObjs.lt hat hx; omega
theorem ok_pending (hd : decN A = some S) (h1 : S.l.length ≤ 100) : CallOk Try.prog netObjs 14 [.ptr 0 0 0] (some A) (pksA S.l, some (encN S)) := by
  refine ⟨fun xs w => by kernel_rfl, fun av w vs p H hav hH hat hargs => ?_⟩
  simp only [RepA] at hargs
  obtain ⟨u1, us, rfl, hu1, rfl⟩ := hargs
  have e1 := obj_arg hu1
  subst e1
  obtain ⟨rfl, hN, hF⟩ := obj_pre (w := w) hat hd
  exact (pending_o hN h1).mono fun e w' h => fresh_ok hat hav h
theorem ok_ready (hd : decN A = some S) (h1 : S.l.length ≤ 100) : CallOk Try.prog netObjs 15 [.ptr 0 0 0] (some A) (pksA S.ready, some (encN S)) := by
  refine ⟨fun xs w => by kernel_rfl, fun av w vs p H hav hH hat hargs => ?_⟩
  simp only [RepA] at hargs
  obtain ⟨u1, us, rfl, hu1, rfl⟩ := hargs
  have e1 := obj_arg hu1
  subst e1
  obtain ⟨rfl, hN, hF⟩ := obj_pre (w := w) hat hd
  exact (ready_o hN h1).mono fun e w' h => fresh_ok hat hav h
theorem ok_cut (hd : decN A = some S) (a b : Int) (c : Bool) : CallOk Try.prog netObjs 21 [.ptr 0 0 0, .int .i64 a, .int .i64 b, .bool c] (some A) (.int .i64 (S.setCut a b c).2, some (encN (S.setCut a b c).1)) := by
  refine ⟨fun xs w => by kernel_rfl, fun av w vs p H hav hH hat hargs => ?_⟩
  simp only [RepA] at hargs
  obtain ⟨u1, us, rfl, hu1, u2, us2, rfl, hu2, u3, us3, rfl, hu3, u4, us4, rfl, hu4, rfl⟩ := hargs
  have e1 := obj_arg hu1
  subst e1
  have e2 : u2 = .int .i64 a := hu2
  have e3 : u3 = .int .i64 b := hu3
  have e4 : u4 = .bool c := hu4
  subst e2
  subst e3
  subst e4
  obtain ⟨rfl, hN, hF⟩ := obj_pre (w := w) hat hd
  refine (cut_o a b c hN hF _ rfl).mono fun e w' h => ?_
  obtain ⟨rfl, H', hat', hH', hk⟩ := obj_post h
  exact ⟨_, H', rfl, rfl, hat', hH', hk⟩
end
theorem dec_bind {S0 : Option AV} {S : Net} (h : S0.bind decN = some S) : ∃ A, S0 = some A ∧ decN A = some S := Option.bind_eq_some_iff.1 h
theorem netExt_ok (f : Nat) (args : List AV) (S0 : Option AV) (r : RV) (h : netExt f args S0 = some r) : CallOk Try.prog netObjs f args S0 r := by
  unfold netExt at h
  split at h
  · rename_i hf
    subst hf
    split at h
    · injection h with h; subst h; exact ok_awake
    · cases h
  · split at h
    · rename_i hf
      subst hf
      split at h
      · split at h
        · rename_i hk
          injection h with h; subst h; exact ok_begin _ hk.1 hk.2
        · cases h
      · cases h
    · split at h
      · rename_i hf
        subst hf
        split at h
        · rename_i k a b id d c S hS
          obtain ⟨A, rfl, hd⟩ := dec_bind hS
          split at h
          · rename_i hk
            injection h with h; subst h; exact ok_do hd ⟨k, a, b, id, d, c⟩ hk.1 hk.2.1 hk.2.2.1 hk.2.2.2
          · cases h
        · cases h
      · split at h
        · rename_i hf
          subst hf
          split at h
          · rename_i S _ hS
            obtain ⟨A, rfl, hd⟩ := dec_bind hS
            split at h
            · rename_i hk
              injection h with h; subst h; exact ok_pending hd hk
            · cases h
          · cases h
        · split at h
          · rename_i hf
            subst hf
            split at h
            · rename_i S _ hS
              obtain ⟨A, rfl, hd⟩ := dec_bind hS
              split at h
              · rename_i hk
                injection h with h; subst h; exact ok_ready hd hk
              · cases h
            · cases h
          · split at h
            · rename_i hf
              subst hf
              split at h
              · rename_i S _ hS
                obtain ⟨A, rfl, hd⟩ := dec_bind hS
                injection h with h; subst h; exact ok_cut hd _ _ _
              · cases h
            · cases h
end Go.Proofs.Ytinpinjjdkilpaa
/- few and the law of the numbers, on the machine. -/
namespace Go.Proofs.Ytinpinjjdkilpaa
open Go Go.RowKit
def c16_1 : C := .seq (.reg [⟨(.some 11), (.bin .lss .false (.t 10) (.t 9)), .none⟩]) (.seq (.cond (.t 11) .skip (.exit 0)) (.seq (.block 1 (.seq (.reg [⟨(.some 12), (.iaddr 6 (.t 8) (.t 10)), .none⟩, ⟨(.some 13), (.load .any .true 6 (.t 12)), .none⟩, ⟨(.some 7), (.alloc [(.int .u8 0), (.int .i64 0), (.int .i64 0), (.int .i64 0), (.str (ByteArray.mk #[])), (.bool .false)]), .none⟩, ⟨.none, (.store .any .true 6 (.t 7) (.t 13)), .none⟩]) (.reg [⟨(.some 14), (.mv (.t 5)), .none⟩, ⟨(.some 15), (.faddr 4 (.t 7)), .none⟩, ⟨(.some 16), (.load .any .false 1 (.t 15)), .none⟩, ⟨(.some 17), (.len .true (.t 16)), .none⟩, ⟨(.some 18), (.bin .add .false (.t 14) (.t 17)), .none⟩, ⟨(.some 5), (.mv (.t 18)), .none⟩]))) (.reg [⟨(.some 19), (.bin .add .false (.t 10) (.c (.int .i64 1))), .none⟩, ⟨(.some 10), (.mv (.t 19)), .none⟩])))
def c16 : FnC := ⟨(.seq (.reg [⟨(.some 4), (.mv (.c (.bool .false))), .none⟩]) (.seq (.reg [⟨(.some 5), (.mv (.c (.int .i64 0))), .none⟩]) (.seq (.seq (.reg [⟨(.some 8), (.mv (.t 0)), .none⟩, ⟨(.some 9), (.len .false (.t 8)), .none⟩, ⟨(.some 10), (.mv (.c (.int .i64 0))), .none⟩]) (.block 0 (.loop c16_1))) (.seq (.reg [⟨(.some 20), (.mv (.t 0)), .none⟩, ⟨(.some 21), (.len .false (.t 20)), .none⟩, ⟨(.some 22), (.mv (.t 1)), .none⟩, ⟨(.some 23), (.bin .leq .false (.t 21) (.t 22)), .none⟩, ⟨(.some 24), (.mv (.t 23)), .none⟩, ⟨(.some 25), (.mv (.t 5)), (.some (24, .true))⟩, ⟨(.some 26), (.bin .leq .false (.t 25) (.c (.int .i64 300))), (.some (24, .true))⟩, ⟨(.some 27), (.pick (.t 24) (.t 26) (.c (.bool .false))), .none⟩, ⟨(.some 4), (.mv (.t 27)), .none⟩]) .ret)))), [(.tmp 4)], 2⟩
def opC (o : Op) : List AV := [.int .u8 o.kind, .int .i64 o.a, .int .i64 o.b, .int .i64 o.id, .str o.data, .bool o.cut]
def opsA (nl : Bool) (l : List Op) : AV := .sl nl (l.map opC)
/-- the letters of all data, as the code adds them -/
def fewS (n : Int) : List Op → Int
  | [] => n
  | o :: r => fewS (IntKind.i64.wrap (n + o.data.size)) r
def fewB (l : List Op) (most : Int) : Bool := decide ((l.length : Int) ≤ most) && decide (fewS 0 l ≤ 300)
set_option maxRecDepth 10000
set_option linter.unusedSimpArgs false
theorem few_lp {T : Nat → Option FnC} {ext : CallT} (nl : Bool) (L : List Op) (r : RV) (k : Ex → MSt → Option RV) (v0 v1 : Slot) (hlen : L.length ≤ 9223372036854775807)
    (hk : ∀ s : MSt, (s.env 0) = v0 → (s.env 1) = v1 → (s.env 5).v = .int .i64 (fewS 0 L) → k (.exit 0) s = some r) :
    ∀ (n i : Nat) (m : Int), i + n = L.length → fewS m (L.drop i) = fewS 0 L → ∀ s : MSt, (s.env 10).v = .int .i64 i → (s.env 9).v = .int .i64 L.length → (s.env 8).v = opsA nl L → (s.env 0) = v0 → (s.env 1) = v1 → (s.env 5).v = .int .i64 m → evL T ext c16_1 s k = some r := by
  intro n
  induction n with
  | zero =>
    intro i m hi hm s e10 e9 e8 e0 e1 e5
    obtain rfl : i = L.length := by omega
    refine evL_intro ?_
    simp [c16_1, C.run, runOps, OpC.step, OpC.eff, K.run, MSt.put, MSt.setObj, Opd.get, Opd.an, MSt.init, MSt.setRow, setRowC, AV.leaf, AV.whole, AV.cells, binC, eqC, natOf, loadC, loadI, Cl.okPtr, Cl.okMem, fillC, fin, finV, objAt, unname, resC, AV.free, AV.free0, AV.back, AV.backN, AV.isObj, AV.named, pack, lendAll, lend, objsOf, again, e10, e9]
    refine hk _ (by simpa using e0) (by simpa using e1) ?_
    simp only [List.drop_length, fewS] at hm
    simp [e5, hm]
  | succ n ih =>
    intro i m hi hm s e10 e9 e8 e0 e1 e5
    have hlt : i < L.length := by omega
    have hw : IntKind.i64.wrap ((i : Int) + 1) = ((i + 1 : Nat) : Int) := by rw [IntWalk.i64_in _ (by omega)]; rfl
    rw [List.drop_eq_getElem_cons hlt] at hm
    refine evL_intro ?_
    simp [c16_1, C.run, runOps, OpC.step, OpC.eff, K.run, MSt.put, MSt.setObj, Opd.get, Opd.an, MSt.init, MSt.setRow, setRowC, AV.leaf, AV.whole, AV.cells, binC, eqC, natOf, loadC, loadI, Cl.okPtr, Cl.okMem, fillC, fin, finV, objAt, unname, resC, AV.free, AV.free0, AV.back, AV.backN, AV.isObj, AV.named, pack, lendAll, lend, objsOf, again, e10, e9, e8, e5, hlt, opsA, opC, hw]
    refine ih (i + 1) (IntKind.i64.wrap (m + (L[i]).data.size)) (by omega) hm _ ?_ ?_ ?_ ?_ ?_ ?_ <;> simp [e10, e9, e8, e5, e0, e1, hw, opsA, opC]
theorem few_ev {T : Nat → Option FnC} {ext : CallT} (hT : T 16 = some c16) (nl : Bool) (L : List Op) (most : Int) (hlen : L.length ≤ 9223372036854775807) : evC T ext 16 [opsA nl L, .int .i64 most] none = some (.bool (fewB L most), none) := by
  refine evC_intro c16 hT rfl ?_
  simp [c16, C.run, runOps, OpC.step, OpC.eff, K.run, MSt.put, MSt.setObj, Opd.get, Opd.an, MSt.init, MSt.setRow, setRowC, AV.leaf, AV.whole, AV.cells, binC, eqC, natOf, loadC, loadI, Cl.okPtr, Cl.okMem, fillC, fin, finV, objAt, unname, resC, AV.free, AV.free0, AV.back, AV.backN, AV.isObj, AV.named, pack, lendAll, lend, objsOf, again, opsA]
  refine few_lp nl L _ _ ⟨opsA nl L, .no⟩ ⟨.int .i64 most, .no⟩ hlen (fun s h0 h1 h5 => ?_) L.length 0 0 (by simp) rfl _ ?_ ?_ ?_ ?_ ?_ ?_ <;> try (simp [opsA]; done)
  by_cases hl : (L.length : Int) ≤ most <;> simp [C.run, runOps, OpC.step, OpC.eff, K.run, MSt.put, MSt.setObj, Opd.get, Opd.an, MSt.init, MSt.setRow, setRowC, AV.leaf, AV.whole, AV.cells, binC, eqC, natOf, loadC, loadI, Cl.okPtr, Cl.okMem, fillC, fin, finV, objAt, unname, resC, AV.free, AV.free0, AV.back, AV.backN, AV.isObj, AV.named, pack, lendAll, lend, objsOf, again, h0, h1, h5, opsA, fewB, hl]
end Go.Proofs.Ytinpinjjdkilpaa
/- The law of the numbers, on the machine. -/
namespace Go.Proofs.Ytinpinjjdkilpaa
open Go Go.RowKit
def c7_1 : C := .seq (.reg [⟨(.some 65), (.bin .lss .false (.t 64) (.t 63)), .none⟩]) (.seq (.cond (.t 65) .skip (.exit 2)) (.seq (.block 3 (.seq (.reg [⟨(.some 66), (.iaddr 4 (.t 62) (.t 64)), .none⟩, ⟨(.some 67), (.load .any .true 4 (.t 66)), .none⟩, ⟨(.some 14), (.alloc [(.int .i64 0), (.int .i64 0), (.int .i64 0), (.str (ByteArray.mk #[]))]), .none⟩, ⟨.none, (.store .any .true 4 (.t 14) (.t 67)), .none⟩]) (.seq (.seq (.reg [⟨(.some 68), (.faddr 0 (.t 14)), .none⟩, ⟨(.some 69), (.load .any .false 1 (.t 68)), .none⟩, ⟨(.some 70), (.mv (.t 12)), .none⟩, ⟨(.some 71), (.bin .leq .false (.t 69) (.t 70)), .none⟩]) (.cond (.t 71) (.seq (.reg [⟨(.some 4), (.mv (.c (.bool .false))), .none⟩]) .ret) .skip)) (.reg [⟨(.some 72), (.faddr 0 (.t 14)), .none⟩, ⟨(.some 73), (.load .any .false 1 (.t 72)), .none⟩, ⟨(.some 12), (.mv (.t 73)), .none⟩])))) (.reg [⟨(.some 74), (.bin .add .false (.t 64) (.c (.int .i64 1))), .none⟩, ⟨(.some 64), (.mv (.t 74)), .none⟩])))
def c7_2 : C := .seq (.reg [⟨(.some 34), (.bin .lss .false (.t 33) (.t 32)), .none⟩]) (.seq (.cond (.t 34) .skip (.exit 0)) (.seq (.block 1 (.seq (.reg [⟨(.some 35), (.iaddr 6 (.t 31) (.t 33)), .none⟩, ⟨(.some 36), (.load .any .true 6 (.t 35)), .none⟩, ⟨(.some 10), (.alloc [(.int .u8 0), (.int .i64 0), (.int .i64 0), (.int .i64 0), (.str (ByteArray.mk #[])), (.bool .false)]), .none⟩, ⟨.none, (.store .any .true 6 (.t 10) (.t 36)), .none⟩]) (.seq (.reg [⟨(.some 37), (.mv (.t 5)), .none⟩, ⟨(.some 38), (.load .any .true 6 (.t 10)), .none⟩, ⟨(.some 39), (.call .any 19 [(.t 37), (.t 38)]), .none⟩, ⟨(.some 11), (.alloc [(.int .i64 0), (.int .i64 0), (.int .i64 0), (.int .i64 0), (.str (ByteArray.mk #[])), (.int .i64 0), (.int .i64 0)]), .none⟩, ⟨.none, (.store .any .true 7 (.t 11) (.t 39)), .none⟩]) (.seq (.seq (.reg [⟨(.some 40), (.faddr 6 (.t 11)), .none⟩, ⟨(.some 41), (.load .any .false 1 (.t 40)), .none⟩, ⟨(.some 42), (.bin .eql .false (.t 41) (.c (.int .i64 0))), .none⟩, ⟨(.some 43), (.mv (.t 42)), .none⟩, ⟨(.some 44), (.faddr 0 (.t 10)), (.some (43, .true))⟩, ⟨(.some 45), (.load .any .false 1 (.t 44)), (.some (43, .true))⟩, ⟨(.some 46), (.bin .rem .false (.t 45) (.c (.int .u8 6))), (.some (43, .true))⟩, ⟨(.some 47), (.bin .eql .false (.t 46) (.c (.int .u8 0))), (.some (43, .true))⟩, ⟨(.some 48), (.mv (.t 47)), (.some (43, .true))⟩, ⟨(.some 49), (.faddr 0 (.t 10)), (.some (48, .false))⟩, ⟨(.some 50), (.load .any .false 1 (.t 49)), (.some (48, .false))⟩, ⟨(.some 51), (.bin .rem .false (.t 50) (.c (.int .u8 6))), (.some (48, .false))⟩, ⟨(.some 52), (.bin .eql .false (.t 51) (.c (.int .u8 3))), (.some (48, .false))⟩, ⟨(.some 53), (.pick (.t 48) (.c (.bool .true)) (.t 52)), (.some (43, .true))⟩, ⟨(.some 54), (.pick (.t 43) (.t 53) (.c (.bool .false))), .none⟩]) (.cond (.t 54) (.seq (.seq (.reg [⟨(.some 55), (.faddr 0 (.t 11)), .none⟩, ⟨(.some 56), (.load .any .false 1 (.t 55)), .none⟩, ⟨(.some 57), (.mv (.t 8)), .none⟩, ⟨(.some 58), (.bin .neq .false (.t 56) (.t 57)), .none⟩]) (.cond (.t 58) (.seq (.reg [⟨(.some 4), (.mv (.c (.bool .false))), .none⟩]) .ret) .skip)) (.reg [⟨(.some 59), (.mv (.t 8)), .none⟩, ⟨(.some 60), (.bin .add .false (.t 59) (.c (.int .i64 1))), .none⟩, ⟨(.some 8), (.mv (.t 60)), .none⟩])) .skip)) (.seq (.reg [⟨(.some 12), (.mv (.c (.int .i64 0))), .none⟩]) (.seq (.reg [⟨(.some 61), (.mv (.t 5)), .none⟩, ⟨(.some 62), (.call .any 14 [(.t 61)]), .none⟩, ⟨(.some 63), (.len .false (.t 62)), .none⟩, ⟨(.some 64), (.mv (.c (.int .i64 0))), .none⟩]) (.block 2 (.loop c7_1)))))))) (.reg [⟨(.some 75), (.bin .add .false (.t 33) (.c (.int .i64 1))), .none⟩, ⟨(.some 33), (.mv (.t 75)), .none⟩])))
def c7 : FnC := ⟨(.seq (.reg [⟨(.some 4), (.mv (.c (.bool .false))), .none⟩]) (.seq (.seq (.reg [⟨(.some 15), (.call .any 11 []), .none⟩, ⟨(.some 16), (.un .not (.t 15)), .none⟩, ⟨(.some 17), (.mv (.t 16)), .none⟩, ⟨(.some 18), (.mv (.t 1)), (.some (17, .false))⟩, ⟨(.some 19), (.call .any 16 [(.t 18), (.c (.int .i64 30))]), (.some (17, .false))⟩, ⟨(.some 20), (.un .not (.t 19)), (.some (17, .false))⟩, ⟨(.some 21), (.pick (.t 17) (.c (.bool .true)) (.t 20)), .none⟩]) (.cond (.t 21) (.seq (.reg [⟨(.some 22), (.call .any 11 []), .none⟩, ⟨(.some 4), (.mv (.t 22)), .none⟩]) .ret) .skip)) (.seq (.reg [⟨(.some 24), (.mv (.t 0)), .none⟩, ⟨(.some 25), (.call .any 17 [(.t 24)]), .none⟩, ⟨(.some 23), (.mv (.t 25)), .none⟩, ⟨(.some 26), (.ext (.t 23) 0), .none⟩, ⟨(.some 27), (.ext (.t 23) 1), .none⟩, ⟨(.some 28), (.ext (.t 23) 2), .none⟩, ⟨(.some 6), (.alloc [(.int .i64 0), (.int .i64 0), (.sl .true []), (.sl .true [])]), .none⟩, ⟨(.some 5), (.mv (.t 26)), .none⟩, ⟨.none, (.store .any .true 4 (.t 6) (.t 27)), .none⟩, ⟨(.some 7), (.mv (.t 28)), .none⟩]) (.seq (.seq (.reg [⟨(.some 29), (.mv (.t 7)), .none⟩, ⟨(.some 30), (.un .not (.t 29)), .none⟩]) (.cond (.t 30) (.seq (.reg [⟨(.some 4), (.mv (.c (.bool .false))), .none⟩]) .ret) .skip)) (.seq (.reg [⟨(.some 8), (.mv (.c (.int .i64 1))), .none⟩]) (.seq (.seq (.reg [⟨(.some 31), (.mv (.t 1)), .none⟩, ⟨(.some 32), (.len .false (.t 31)), .none⟩, ⟨(.some 33), (.mv (.c (.int .i64 0))), .none⟩]) (.block 0 (.loop c7_2))) (.seq (.reg [⟨(.some 4), (.mv (.c (.bool .true))), .none⟩]) .ret))))))), [(.tmp 4)], 2⟩
set_option maxRecDepth 10000
set_option linter.unusedSimpArgs false
section
variable {T : Nat → Option FnC}
/-- what the inner loop keeps -/
def Kp7 (s0 s : MSt) : Prop := s.env 5 = s0.env 5 ∧ s.env 8 = s0.env 8 ∧ s.env 31 = s0.env 31 ∧ s.env 32 = s0.env 32 ∧ s.env 33 = s0.env 33 ∧ s.obj = s0.obj
theorem ids_in (l : List Pkt) (hlen : l.length ≤ 100) (hasc : l.Pairwise fun p q => p.id < q.id) (r : RV) (k : Ex → MSt → Option RV) (s0 : MSt) (hk : ∀ s, Kp7 s0 s → k (.exit 2) s = some r) :
    ∀ (n j : Nat) (b : Int), j + n = l.length → (∀ h : j < l.length, b < (l[j]).id) → ∀ s : MSt, (s.env 64).v = .int .i64 j → (s.env 63).v = .int .i64 l.length → (s.env 62).v = pksA l → (s.env 12).v = .int .i64 b → Kp7 s0 s → evL T netExt c7_1 s k = some r := by
  intro n
  induction n with
  | zero =>
    intro j b hj hb s e64 e63 e62 e12 hK
    obtain rfl : j = l.length := by omega
    refine evL_intro ?_
    simp [c7_1, C.run, runOps, OpC.step, OpC.eff, K.run, MSt.put, MSt.setObj, Opd.get, Opd.an, MSt.init, MSt.setRow, setRowC, AV.leaf, AV.whole, AV.cells, binC, eqC, natOf, loadC, loadI, Cl.okPtr, Cl.okMem, fillC, fin, finV, objAt, unname, resC, AV.free, AV.free0, AV.back, AV.backN, AV.isObj, AV.named, pack, lendAll, lend, objsOf, again, e64, e63]
    exact hk _ (by simpa [Kp7] using hK)
  | succ n ih =>
    intro j b hj hb s e64 e63 e62 e12 hK
    have hlt : j < l.length := by omega
    have hw : IntKind.i64.wrap ((j : Int) + 1) = ((j + 1 : Nat) : Int) := by rw [IntWalk.i64_in _ (by omega)]; rfl
    have hle : ¬ (l[j]).id ≤ b := by have := hb hlt; omega
    refine evL_intro ?_
    simp [c7_1, C.run, runOps, OpC.step, OpC.eff, K.run, MSt.put, MSt.setObj, Opd.get, Opd.an, MSt.init, MSt.setRow, setRowC, AV.leaf, AV.whole, AV.cells, binC, eqC, natOf, loadC, loadI, Cl.okPtr, Cl.okMem, fillC, fin, finV, objAt, unname, resC, AV.free, AV.free0, AV.back, AV.backN, AV.isObj, AV.named, pack, lendAll, lend, objsOf, again, e64, e63, e62, e12, hlt, pksA, Pkt.cv, hw, hle]
    refine ih (j + 1) (l[j]).id (by omega) (fun h => List.pairwise_iff_getElem.1 hasc j (j + 1) hlt h (by omega)) _ ?_ ?_ ?_ ?_ ?_ <;> first | (simp [e64, e63, e62, e12, hw, pksA]; done) | (simpa [Kp7] using hK)
/-- a call of do -/
theorem do_ev (hT : T 19 = none) (S : Net) (hI : S.Inv) (hlast : S.last ≤ 1000000) (o : Op) (ho : o.ok) : evC T netExt 19 [.ptr 0 0 0, .agg (opC o)] (some (encN S)) = some (resA (S.exec o).2, some (encN (S.exec o).1)) := by
  refine evC_ext hT ?_
  have h1 := hI.len
  have h2 := hI.last
  have h3 : S.l.length ≤ 100 ∧ 0 ≤ S.last ∧ S.last ≤ 1000000 ∧ 0 ≤ o.kind ∧ o.kind ≤ 255 := ⟨by omega, h2, hlast, ho.1, ho.2⟩
  simp [netExt, opC, decN_enc, h3]
theorem pending_ev (hT : T 14 = none) (S : Net) (hI : S.Inv) : evC T netExt 14 [.ptr 0 0 0] (some (encN S)) = some (pksA S.l, some (encN S)) := by
  refine evC_ext hT ?_
  have h1 := hI.len
  have h3 : S.l.length ≤ 100 := by omega
  simp [netExt, decN_enc, h3]
theorem ids_out (hT1 : T 19 = none) (hT2 : T 14 = none) (nl : Bool) (L : List Op) (hlen : L.length ≤ 1000) (hok : ∀ o ∈ L, o.ok) (m : Nat) (r : RV) (k : Ex → MSt → Option RV) (hk : ∀ s, k (.exit 0) s = some r) :
    ∀ (n i : Nat) (S : Net), i + n = L.length → S.Inv → S.last ≤ i → ∀ s : MSt, (s.env 33).v = .int .i64 i → (s.env 32).v = .int .i64 L.length → (s.env 31).v = opsA nl L → (s.env 8).v = .int .i64 (S.last + 1) → (s.env 5).v = .ptr 25 m 0 → s.obj 25 m = some (encN S) → evL T netExt c7_2 s k = some r := by
  intro n
  induction n with
  | zero =>
    intro i S hi hI hl s e33 e32 e31 e8 e5 ob
    obtain rfl : i = L.length := by omega
    refine evL_intro ?_
    simp [c7_2, C.run, runOps, OpC.step, OpC.eff, K.run, MSt.put, MSt.setObj, Opd.get, Opd.an, MSt.init, MSt.setRow, setRowC, AV.leaf, AV.whole, AV.cells, binC, eqC, natOf, loadC, loadI, Cl.okPtr, Cl.okMem, fillC, fin, finV, objAt, unname, resC, AV.free, AV.free0, AV.back, AV.backN, AV.isObj, AV.named, pack, lendAll, lend, objsOf, again, e33, e32]
    exact hk _
  | succ n ih =>
    intro i S hi hI hl s e33 e32 e31 e8 e5 ob
    have hlt : i < L.length := by omega
    have hw : IntKind.i64.wrap ((i : Int) + 1) = ((i + 1 : Nat) : Int) := by rw [IntWalk.i64_in _ (by omega)]; rfl
    have ho := hok _ (List.getElem_mem hlt)
    have hdo := do_ev hT1 S hI (by omega) L[i] ho
    have hI' := (Net.exec_inv hI L[i]).1
    have hl' := Net.exec_last hI L[i]
    have hpe := pending_ev hT2 (S.exec L[i]).1 hI'
    obtain ⟨_, hu, hv⟩ := Net.exec_inv hI L[i]
    have ht : (L[i]).kind.tmod 6 = (L[i]).kind % 6 := Int.tmod_eq_emod_of_nonneg ho.1
    have hw2 : IntKind.i64.wrap (S.last + 1 + 1) = S.last + 1 + 1 := IntWalk.i64_in _ (by have := hI.last; omega)
    simp only [opC, resA] at hdo
    have hids : ∀ h : 0 < (S.exec L[i]).1.l.length, (0 : Int) < ((S.exec L[i]).1.l[0]).id := fun h => by have := (hI'.ids _ (List.getElem_mem h)).1; omega
    have hlen' : (S.exec L[i]).1.l.length ≤ 100 := by have := hI'.len; omega
    have hcase : ((S.exec L[i]).2.e = 0 ∧ (L[i]).kind % 6 = 0 ∧ (S.exec L[i]).2.id = S.last + 1 ∧ (S.exec L[i]).1.last = S.last + 1) ∨ ((S.exec L[i]).2.e = 0 ∧ ¬ (L[i]).kind % 6 = 0 ∧ (L[i]).kind % 6 = 3 ∧ (S.exec L[i]).2.id = S.last + 1 ∧ (S.exec L[i]).1.last = S.last + 1) ∨ ((S.exec L[i]).2.e = 0 ∧ ¬ (L[i]).kind % 6 = 0 ∧ ¬ (L[i]).kind % 6 = 3 ∧ (S.exec L[i]).1.last = S.last) ∨ (¬ (S.exec L[i]).2.e = 0 ∧ (S.exec L[i]).1.last = S.last) := by
      by_cases he : (S.exec L[i]).2.e = 0
      · by_cases c0 : (L[i]).kind % 6 = 0
        · exact .inl ⟨he, c0, ((hu (.inl c0)).1 he).1, ((hu (.inl c0)).1 he).2⟩
        · by_cases c3 : (L[i]).kind % 6 = 3
          · exact .inr (.inl ⟨he, c0, c3, ((hu (.inr c3)).1 he).1, ((hu (.inr c3)).1 he).2⟩)
          · exact .inr (.inr (.inl ⟨he, c0, c3, hv (fun h => h.elim c0 c3)⟩))
      · refine .inr (.inr (.inr ⟨he, ?_⟩))
        by_cases c : (L[i]).kind % 6 = 0 ∨ (L[i]).kind % 6 = 3
        · exact (hu c).2 he
        · exact hv c
    refine evL_intro ?_
    rcases hcase with ⟨he, c0, hid', hS⟩ | ⟨he, c0, c3, hid', hS⟩ | ⟨he, c0, c3, hS⟩ | ⟨he, hS⟩
    · simp [c7_2, C.run, runOps, OpC.step, OpC.eff, K.run, MSt.put, MSt.setObj, Opd.get, Opd.an, MSt.init, MSt.setRow, setRowC, AV.leaf, AV.whole, AV.cells, binC, eqC, natOf, loadC, loadI, Cl.okPtr, Cl.okMem, fillC, fin, finV, objAt, unname, resC, AV.free, AV.free0, AV.back, AV.backN, AV.isObj, AV.named, pack, lendAll, lend, objsOf, again, e33, e32, e31, e5, hlt, opsA, opC, ob, hdo, hpe, pksA, ht, e8, hw2, he, c0, hid']
      refine ids_in (S.exec L[i]).1.l hlen' hI'.asc r _ _ (fun s1 hK => ?_) (S.exec L[i]).1.l.length 0 0 (by simp) hids _ ?_ ?_ ?_ ?_ ⟨rfl, rfl, rfl, rfl, rfl, rfl⟩ <;> try (simp [pksA]; done)
      obtain ⟨k5, k8, k31, k32, k33, kob⟩ := hK
      simp [C.run, runOps, OpC.step, OpC.eff, K.run, MSt.put, MSt.setObj, Opd.get, Opd.an, MSt.init, MSt.setRow, setRowC, AV.leaf, AV.whole, AV.cells, binC, eqC, natOf, loadC, loadI, Cl.okPtr, Cl.okMem, fillC, fin, finV, objAt, unname, resC, AV.free, AV.free0, AV.back, AV.backN, AV.isObj, AV.named, pack, lendAll, lend, objsOf, again, k33, e33, hw]
      refine ih (i + 1) (S.exec L[i]).1 (by omega) hI' (by omega) _ ?_ ?_ ?_ ?_ ?_ ?_ <;> simp [k5, k8, k31, k32, k33, kob, hw, e33, e32, e31, e8, e5, opsA, hS]
    · simp [c7_2, C.run, runOps, OpC.step, OpC.eff, K.run, MSt.put, MSt.setObj, Opd.get, Opd.an, MSt.init, MSt.setRow, setRowC, AV.leaf, AV.whole, AV.cells, binC, eqC, natOf, loadC, loadI, Cl.okPtr, Cl.okMem, fillC, fin, finV, objAt, unname, resC, AV.free, AV.free0, AV.back, AV.backN, AV.isObj, AV.named, pack, lendAll, lend, objsOf, again, e33, e32, e31, e5, hlt, opsA, opC, ob, hdo, hpe, pksA, ht, e8, hw2, he, c0, c3, hid']
      refine ids_in (S.exec L[i]).1.l hlen' hI'.asc r _ _ (fun s1 hK => ?_) (S.exec L[i]).1.l.length 0 0 (by simp) hids _ ?_ ?_ ?_ ?_ ⟨rfl, rfl, rfl, rfl, rfl, rfl⟩ <;> try (simp [pksA]; done)
      obtain ⟨k5, k8, k31, k32, k33, kob⟩ := hK
      simp [C.run, runOps, OpC.step, OpC.eff, K.run, MSt.put, MSt.setObj, Opd.get, Opd.an, MSt.init, MSt.setRow, setRowC, AV.leaf, AV.whole, AV.cells, binC, eqC, natOf, loadC, loadI, Cl.okPtr, Cl.okMem, fillC, fin, finV, objAt, unname, resC, AV.free, AV.free0, AV.back, AV.backN, AV.isObj, AV.named, pack, lendAll, lend, objsOf, again, k33, e33, hw]
      refine ih (i + 1) (S.exec L[i]).1 (by omega) hI' (by omega) _ ?_ ?_ ?_ ?_ ?_ ?_ <;> simp [k5, k8, k31, k32, k33, kob, hw, e33, e32, e31, e8, e5, opsA, hS]
    · simp [c7_2, C.run, runOps, OpC.step, OpC.eff, K.run, MSt.put, MSt.setObj, Opd.get, Opd.an, MSt.init, MSt.setRow, setRowC, AV.leaf, AV.whole, AV.cells, binC, eqC, natOf, loadC, loadI, Cl.okPtr, Cl.okMem, fillC, fin, finV, objAt, unname, resC, AV.free, AV.free0, AV.back, AV.backN, AV.isObj, AV.named, pack, lendAll, lend, objsOf, again, e33, e32, e31, e5, hlt, opsA, opC, ob, hdo, hpe, pksA, ht, e8, hw2, he, c0, c3]
      refine ids_in (S.exec L[i]).1.l hlen' hI'.asc r _ _ (fun s1 hK => ?_) (S.exec L[i]).1.l.length 0 0 (by simp) hids _ ?_ ?_ ?_ ?_ ⟨rfl, rfl, rfl, rfl, rfl, rfl⟩ <;> try (simp [pksA]; done)
      obtain ⟨k5, k8, k31, k32, k33, kob⟩ := hK
      simp [C.run, runOps, OpC.step, OpC.eff, K.run, MSt.put, MSt.setObj, Opd.get, Opd.an, MSt.init, MSt.setRow, setRowC, AV.leaf, AV.whole, AV.cells, binC, eqC, natOf, loadC, loadI, Cl.okPtr, Cl.okMem, fillC, fin, finV, objAt, unname, resC, AV.free, AV.free0, AV.back, AV.backN, AV.isObj, AV.named, pack, lendAll, lend, objsOf, again, k33, e33, hw]
      refine ih (i + 1) (S.exec L[i]).1 (by omega) hI' (by omega) _ ?_ ?_ ?_ ?_ ?_ ?_ <;> simp [k5, k8, k31, k32, k33, kob, hw, e33, e32, e31, e8, e5, opsA, hS]
    · simp [c7_2, C.run, runOps, OpC.step, OpC.eff, K.run, MSt.put, MSt.setObj, Opd.get, Opd.an, MSt.init, MSt.setRow, setRowC, AV.leaf, AV.whole, AV.cells, binC, eqC, natOf, loadC, loadI, Cl.okPtr, Cl.okMem, fillC, fin, finV, objAt, unname, resC, AV.free, AV.free0, AV.back, AV.backN, AV.isObj, AV.named, pack, lendAll, lend, objsOf, again, e33, e32, e31, e5, hlt, opsA, opC, ob, hdo, hpe, pksA, ht, e8, hw2, he]
      refine ids_in (S.exec L[i]).1.l hlen' hI'.asc r _ _ (fun s1 hK => ?_) (S.exec L[i]).1.l.length 0 0 (by simp) hids _ ?_ ?_ ?_ ?_ ⟨rfl, rfl, rfl, rfl, rfl, rfl⟩ <;> try (simp [pksA]; done)
      obtain ⟨k5, k8, k31, k32, k33, kob⟩ := hK
      simp [C.run, runOps, OpC.step, OpC.eff, K.run, MSt.put, MSt.setObj, Opd.get, Opd.an, MSt.init, MSt.setRow, setRowC, AV.leaf, AV.whole, AV.cells, binC, eqC, natOf, loadC, loadI, Cl.okPtr, Cl.okMem, fillC, fin, finV, objAt, unname, resC, AV.free, AV.free0, AV.back, AV.backN, AV.isObj, AV.named, pack, lendAll, lend, objsOf, again, k33, e33, hw]
      refine ih (i + 1) (S.exec L[i]).1 (by omega) hI' (by omega) _ ?_ ?_ ?_ ?_ ?_ ?_ <;> simp [k5, k8, k31, k32, k33, kob, hw, e33, e32, e31, e8, e5, opsA, hS]
end
end Go.Proofs.Ytinpinjjdkilpaa
/- What cutting and healing come to: the plain network. -/
namespace Go.Proofs.Ytinpinjjdkilpaa
/-- nodes in range; a link that is cut lies between two nodes, the lesser one first -/
structure Net.Ok (S : Net) : Prop where
  n : 1 ≤ S.n ∧ S.n ≤ 20
  nodes : ∀ p ∈ S.l, 0 ≤ p.src ∧ p.src < S.n ∧ 0 ≤ p.dst ∧ p.dst < S.n
  cuts : ∀ a b, getA S.cut (a, b) = some true → 0 ≤ a ∧ a < b ∧ b < S.n
theorem Net.Ok.new {n : Int} (h : 1 ≤ n ∧ n ≤ 20) : (newNet n).Ok := ⟨h, fun p hp => by simp [newNet] at hp, fun a b h => by simp [newNet, getA] at h⟩
theorem Net.Ok.sub {S : Net} (h : S.Ok) {l : List Pkt} (hs : ∀ p ∈ l, p ∈ S.l) : ({ S with l := l } : Net).Ok := ⟨h.n, fun p hp => h.nodes p (hs p hp), h.cuts⟩
theorem node_iff {S : Net} {a : Int} : S.node a = true ↔ 0 ≤ a ∧ a < S.n := by simp [Net.node]
theorem Net.Ok.put {S : Net} (h : S.Ok) {a b : Int} (d : ByteArray) (ha : 0 ≤ a ∧ a < S.n) (hb : 0 ≤ b ∧ b < S.n) : (S.put a b d).1.Ok := by
  unfold Net.put
  split
  · refine ⟨h.n, fun p hp => ?_, h.cuts⟩
    simp only [Net.sent, List.mem_append, List.mem_cons, List.not_mem_nil, or_false] at hp ⊢
    rcases hp with hp | rfl
    · exact h.nodes p hp
    · exact ⟨ha.1, ha.2, hb.1, hb.2⟩
  · exact h
theorem Net.Ok.setCut {S : Net} (h : S.Ok) (a b : Int) (c : Bool) : (S.setCut a b c).1.Ok := by
  unfold Net.setCut
  split
  · rename_i hc
    simp only [Bool.and_eq_true, Bool.not_eq_true', decide_eq_false_iff_not, node_iff] at hc
    refine ⟨h.n, h.nodes, fun x y hxy => ?_⟩
    simp only [getA_setA] at hxy
    split at hxy
    · rename_i e
      injection e with e1 e2
      subst e1; subst e2
      obtain ⟨h1, h2, h3⟩ := hc
      show 0 ≤ min a b ∧ min a b < max a b ∧ max a b < S.n
      omega
    · exact h.cuts x y hxy
  · exact h
theorem Net.exec_ok {S : Net} (h : S.Ok) (o : Op) : (S.exec o).1.Ok := by
  have wo : ∀ i, (S.without i).Ok := fun i => h.sub fun p hp => List.mem_of_mem_eraseIdx hp
  unfold Net.exec
  split
  · show (S.send o.a o.b o.data).1.Ok
    unfold Net.send
    split
    · rename_i hn
      simp only [Bool.and_eq_true, node_iff] at hn
      exact h.put _ hn.1 hn.2
    · exact h
  · split
    · show (S.deliver o.id).1.Ok
      unfold Net.deliver
      split
      · exact h
      · simp only
        split
        · exact h
        · exact wo _
    · split
      · show (S.drop o.id).1.Ok
        unfold Net.drop
        split
        · exact h
        · exact wo _
      · split
        · show (S.copy o.id).1.Ok
          unfold Net.copy
          split
          · exact h
          · rename_i i hi
            unfold Net.at_ at hi
            have hlt := (List.findIdx?_eq_some_iff_getElem.1 hi).1
            have hg : S.l.getD i zeroP = S.l[i] := by simp [List.getD, hlt]
            have := h.nodes _ (List.getElem_mem hlt)
            simp only [hg]
            exact h.put _ ⟨this.1, this.2.1⟩ ⟨this.2.2.1, this.2.2.2⟩
        · split
          · exact h.setCut _ _ _
          · show (S.clear o.a).1.Ok
            unfold Net.clear
            split
            · exact h.sub fun p hp => (List.mem_filter.1 hp).1
            · exact h
theorem setCut_same (S : Net) (a b : Int) (c : Bool) : (S.setCut a b c).1.l = S.l ∧ (S.setCut a b c).1.n = S.n ∧ (S.setCut a b c).1.last = S.last := by
  unfold Net.setCut
  split <;> exact ⟨rfl, rfl, rfl⟩
theorem Net.Inv.setCut {S : Net} (h : S.Inv) (a b : Int) (c : Bool) : (S.setCut a b c).1.Inv := by
  obtain ⟨h1, h2, h3⟩ := setCut_same S a b c
  exact ⟨by rw [h1]; exact h.len, by rw [h3]; exact h.last, by rw [h1]; exact h.asc, by rw [h1, h3]; exact h.ids⟩
/-- healed up to the link (a, b), b < a -/
def Net.Healed (S : Net) (a b : Int) : Prop := ∀ x y, getA S.cut (x, y) = some true → a ≤ y ∧ (y = a → b ≤ x)
theorem heal_ok {S : Net} {a b : Int} (h : 0 ≤ b ∧ b < a ∧ a < S.n) : (S.setCut b a false).2 = 0 := by
  unfold Net.setCut
  rw [if_pos]
  simp only [Bool.and_eq_true, Bool.not_eq_true', decide_eq_false_iff_not, node_iff]
  omega
theorem heal_step {S : Net} {a b : Int} (h : 0 ≤ b ∧ b < a ∧ a < S.n) (hh : S.Healed a b) : (S.setCut b a false).1.Healed a (b + 1) := by
  intro x y hxy
  have e : (S.setCut b a false).1 = { S with cut := setA S.cut (min b a, max b a) false } := by
    unfold Net.setCut
    rw [if_pos]
    simp only [Bool.and_eq_true, Bool.not_eq_true', decide_eq_false_iff_not, node_iff]
    omega
  rw [e] at hxy
  simp only [getA_setA] at hxy
  split at hxy
  · cases hxy
  · rename_i hne
    obtain ⟨h1, h2⟩ := hh x y hxy
    refine ⟨h1, fun hy => ?_⟩
    have h3 := h2 hy
    rcases Int.lt_or_eq_of_le h3 with h4 | h4
    · omega
    · exfalso
      apply hne
      rw [show min b a = b from by omega, show max b a = a from by omega, hy, h4]
theorem heal_next {S : Net} (hS : S.Ok) {a : Int} (hh : S.Healed a a) : S.Healed (a + 1) 0 := by
  intro x y hxy
  obtain ⟨h1, h2⟩ := hh x y hxy
  obtain ⟨c1, c2, c3⟩ := hS.cuts x y hxy
  refine ⟨?_, fun _ => c1⟩
  rcases Int.lt_or_eq_of_le h1 with h3 | h3
  · omega
  · have := h2 h3.symm
    omega
theorem heal_start (S : Net) (hS : S.Ok) : S.Healed 0 0 := fun x y hxy => by
  obtain ⟨c1, c2, c3⟩ := hS.cuts x y hxy
  exact ⟨by omega, fun h => by omega⟩
theorem heal_done {S : Net} (hS : S.Ok) {a : Int} (ha : S.n ≤ a) (hh : S.Healed a 0) : S.ready = S.l := by
  unfold Net.ready
  rw [List.filter_eq_self]
  intro p _
  simp only [Bool.not_eq_true', Net.isCut]
  cases hg : getA S.cut (min p.src p.dst, max p.src p.dst) with
  | none => rfl
  | some b =>
    cases b with
    | false => rfl
    | true =>
      obtain ⟨c1, c2, c3⟩ := hS.cuts _ _ hg
      obtain ⟨h1, _⟩ := hh _ _ hg
      omega
end Go.Proofs.Ytinpinjjdkilpaa
/- Same, on the machine. -/
namespace Go.Proofs.Ytinpinjjdkilpaa
open Go Go.RowKit
def c22_1 : C := .seq (.seq (.reg [⟨(.some 11), (.mv (.t 5)), .none⟩, ⟨(.some 12), (.mv (.t 0)), .none⟩, ⟨(.some 13), (.len .false (.t 12)), .none⟩, ⟨(.some 14), (.bin .lss .false (.t 11) (.t 13)), .none⟩]) (.cond (.t 14) .skip (.exit 0))) (.seq (.block 1 (.seq (.reg [⟨(.some 17), (.mv (.t 0)), .none⟩, ⟨(.some 18), (.mv (.t 5)), .none⟩, ⟨(.some 19), (.iaddr 4 (.t 17) (.t 18)), .none⟩, ⟨(.some 20), (.load .any .true 4 (.t 19)), .none⟩, ⟨(.some 21), (.mv (.t 1)), .none⟩, ⟨(.some 22), (.mv (.t 5)), .none⟩, ⟨(.some 23), (.iaddr 4 (.t 21) (.t 22)), .none⟩, ⟨(.some 24), (.load .any .true 4 (.t 23)), .none⟩, ⟨(.some 25), (.eqa .true [0, 0, 0, 1] (.t 20) (.t 24)), .none⟩]) (.cond (.t 25) (.seq (.reg [⟨(.some 4), (.mv (.c (.bool .false))), .none⟩]) .ret) .skip))) (.reg [⟨(.some 15), (.mv (.t 5)), .none⟩, ⟨(.some 16), (.bin .add .false (.t 15) (.c (.int .i64 1))), .none⟩, ⟨(.some 5), (.mv (.t 16)), .none⟩]))
def c22 : FnC := ⟨(.seq (.reg [⟨(.some 4), (.mv (.c (.bool .false))), .none⟩]) (.seq (.seq (.reg [⟨(.some 6), (.mv (.t 0)), .none⟩, ⟨(.some 7), (.len .false (.t 6)), .none⟩, ⟨(.some 8), (.mv (.t 1)), .none⟩, ⟨(.some 9), (.len .false (.t 8)), .none⟩, ⟨(.some 10), (.bin .neq .false (.t 7) (.t 9)), .none⟩]) (.cond (.t 10) (.seq (.reg [⟨(.some 4), (.mv (.c (.bool .false))), .none⟩]) .ret) .skip)) (.seq (.seq (.reg [⟨(.some 5), (.mv (.c (.int .i64 0))), .none⟩]) (.block 0 (.loop c22_1))) (.seq (.reg [⟨(.some 4), (.mv (.c (.bool .true))), .none⟩]) .ret)))), [(.tmp 4)], 2⟩
set_option maxRecDepth 10000
set_option linter.unusedSimpArgs false
section
variable {T : Nat → Option FnC} {ext : CallT}
theorem pkt_ext {p q : Pkt} : p = q ↔ p.id = q.id ∧ p.src = q.src ∧ p.dst = q.dst ∧ p.data = q.data := by
  obtain ⟨a, b, c, d⟩ := p
  obtain ⟨a', b', c', d'⟩ := q
  simp
theorem eqC_pkt (p q : Pkt) : eqC [0, 0, 0, 1] p.cv q.cv = some (decide (p = q)) := by
  by_cases h : p = q
  · subst h; simp [eqC, Pkt.cv]
  · simp only [h, decide_false]
    rw [pkt_ext] at h
    by_cases h1 : p.id = q.id <;> by_cases h2 : p.src = q.src <;> by_cases h3 : p.dst = q.dst <;> by_cases h4 : p.data = q.data <;> simp_all [eqC, Pkt.cv]
theorem same_lp (n1 n2 : Bool) (L M : List Pkt) (hl : L.length = M.length) (hlen : L.length ≤ 9223372036854775807) (r : RV) (k : Ex → MSt → Option RV) (hk : L = M → ∀ s, k (.exit 0) s = some r) (hr : L ≠ M → ∀ s : MSt, (s.env 4).v = .bool false → k .ret s = some r) :
    ∀ (n i : Nat), i + n = L.length → L.take i = M.take i → ∀ s : MSt, (s.env 5).v = .int .i64 i → (s.env 0).v = .sl n1 (L.map Pkt.cv) → (s.env 1).v = .sl n2 (M.map Pkt.cv) → evL T ext c22_1 s k = some r := by
  intro n
  induction n with
  | zero =>
    intro i hi ht s e5 e0 e1
    obtain rfl : i = L.length := by omega
    refine evL_intro ?_
    simp [c22_1, C.run, runOps, OpC.step, OpC.eff, K.run, MSt.put, MSt.setObj, Opd.get, Opd.an, MSt.init, MSt.setRow, setRowC, AV.leaf, AV.whole, AV.cells, binC, eqC, natOf, loadC, loadI, Cl.okPtr, Cl.okMem, fillC, fin, finV, objAt, unname, resC, AV.free, AV.free0, AV.back, AV.backN, AV.isObj, AV.named, pack, lendAll, lend, objsOf, again, e5, e0]
    refine hk ?_ _
    rw [List.take_length, hl, List.take_length] at ht
    exact ht
  | succ n ih =>
    intro i hi ht s e5 e0 e1
    have hlt : i < L.length := by omega
    have hlt' : i < M.length := by omega
    have hw : IntKind.i64.wrap ((i : Int) + 1) = ((i + 1 : Nat) : Int) := by rw [IntWalk.i64_in _ (by omega)]; rfl
    have hq := eqC_pkt L[i] M[i]
    simp only [Pkt.cv] at hq
    refine evL_intro ?_
    by_cases he : L[i] = M[i]
    · simp only [he, decide_true] at hq
      simp [c22_1, C.run, runOps, OpC.step, OpC.eff, K.run, MSt.put, MSt.setObj, Opd.get, Opd.an, MSt.init, MSt.setRow, setRowC, AV.leaf, AV.whole, AV.cells, binC, eqC, natOf, loadC, loadI, Cl.okPtr, Cl.okMem, fillC, fin, finV, objAt, unname, resC, AV.free, AV.free0, AV.back, AV.backN, AV.isObj, AV.named, pack, lendAll, lend, objsOf, again, e5, e0, e1, hlt, hlt', Pkt.cv, hq, he, hw]
      refine ih (i + 1) (by omega) ?_ _ ?_ ?_ ?_ <;> try (simp [e5, e0, e1, hw, Pkt.cv]; done)
      rw [List.take_succ_eq_append_getElem hlt, List.take_succ_eq_append_getElem hlt', ht, he]
    · simp only [he, decide_false] at hq
      have hne : L ≠ M := fun h => he (by subst h; rfl)
      simp [c22_1, C.run, runOps, OpC.step, OpC.eff, K.run, MSt.put, MSt.setObj, Opd.get, Opd.an, MSt.init, MSt.setRow, setRowC, AV.leaf, AV.whole, AV.cells, binC, eqC, natOf, loadC, loadI, Cl.okPtr, Cl.okMem, fillC, fin, finV, objAt, unname, resC, AV.free, AV.free0, AV.back, AV.backN, AV.isObj, AV.named, pack, lendAll, lend, objsOf, again, e5, e0, e1, hlt, hlt', Pkt.cv, hq, he, hw]
      exact hr hne _ (by simp)
theorem same_ev (hT : T 22 = some c22) (n1 n2 : Bool) (L M : List Pkt) (h1 : L.length ≤ 9223372036854775807) : evC T ext 22 [.sl n1 (L.map Pkt.cv), .sl n2 (M.map Pkt.cv)] none = some (.bool (decide (L = M)), none) := by
  refine evC_intro c22 hT rfl ?_
  by_cases hl : L.length = M.length
  · simp [c22, C.run, runOps, OpC.step, OpC.eff, K.run, MSt.put, MSt.setObj, Opd.get, Opd.an, MSt.init, MSt.setRow, setRowC, AV.leaf, AV.whole, AV.cells, binC, eqC, natOf, loadC, loadI, Cl.okPtr, Cl.okMem, fillC, fin, finV, objAt, unname, resC, AV.free, AV.free0, AV.back, AV.backN, AV.isObj, AV.named, pack, lendAll, lend, objsOf, again, hl]
    refine same_lp n1 n2 L M hl h1 _ _ (fun h s => ?_) (fun h s h4 => ?_) L.length 0 (by simp) rfl _ ?_ ?_ ?_ <;> simp [C.run, runOps, OpC.step, OpC.eff, K.run, MSt.put, MSt.setObj, Opd.get, Opd.an, MSt.init, MSt.setRow, setRowC, AV.leaf, AV.whole, AV.cells, binC, eqC, natOf, loadC, loadI, Cl.okPtr, Cl.okMem, fillC, fin, finV, objAt, unname, resC, AV.free, AV.free0, AV.back, AV.backN, AV.isObj, AV.named, pack, lendAll, lend, objsOf, again, *]
  · have hl' : ¬ (L.length : Int) = (M.length : Int) := by omega
    have hne : L ≠ M := fun h => hl (by rw [h])
    simp [c22, C.run, runOps, OpC.step, OpC.eff, K.run, MSt.put, MSt.setObj, Opd.get, Opd.an, MSt.init, MSt.setRow, setRowC, AV.leaf, AV.whole, AV.cells, binC, eqC, natOf, loadC, loadI, Cl.okPtr, Cl.okMem, fillC, fin, finV, objAt, unname, resC, AV.free, AV.free0, AV.back, AV.backN, AV.isObj, AV.named, pack, lendAll, lend, objsOf, again, hl, hl', hne]
end
end Go.Proofs.Ytinpinjjdkilpaa
/- The law of cutting and healing, on the machine. -/
namespace Go.Proofs.Ytinpinjjdkilpaa
open Go Go.RowKit
def c8_1 : C := .seq (.reg [⟨(.some 83), (.bin .lss .false (.t 82) (.t 81)), .none⟩]) (.seq (.cond (.t 83) .skip (.exit 6)) (.seq (.block 7 (.seq (.reg [⟨(.some 84), (.mv (.t 82)), .none⟩, ⟨(.some 16), (.mv (.t 84)), .none⟩]) (.seq (.reg [⟨(.some 85), (.mv (.t 7)), .none⟩, ⟨(.some 86), (.mv (.t 16)), .none⟩, ⟨(.some 87), (.mv (.t 15)), .none⟩, ⟨(.some 88), (.call .any 21 [(.t 85), (.t 86), (.t 87), (.c (.bool .false))]), .none⟩, ⟨(.some 89), (.bin .neq .false (.t 88) (.c (.int .i64 0))), .none⟩]) (.cond (.t 89) (.seq (.reg [⟨(.some 6), (.mv (.c (.bool .false))), .none⟩]) .ret) .skip)))) (.reg [⟨(.some 90), (.bin .add .false (.t 82) (.c (.int .i64 1))), .none⟩, ⟨(.some 82), (.mv (.t 90)), .none⟩])))
def c8_2 : C := .seq (.reg [⟨(.some 79), (.bin .lss .false (.t 78) (.t 77)), .none⟩]) (.seq (.cond (.t 79) .skip (.exit 4)) (.seq (.block 5 (.seq (.reg [⟨(.some 80), (.mv (.t 78)), .none⟩, ⟨(.some 15), (.mv (.t 80)), .none⟩]) (.seq (.reg [⟨(.some 81), (.mv (.t 15)), .none⟩, ⟨(.some 82), (.mv (.c (.int .i64 0))), .none⟩]) (.block 6 (.loop c8_1))))) (.reg [⟨(.some 91), (.bin .add .false (.t 78) (.c (.int .i64 1))), .none⟩, ⟨(.some 78), (.mv (.t 91)), .none⟩])))
def c8_3 : C := .seq (.reg [⟨(.some 53), (.bin .lss .false (.t 52) (.t 51)), .none⟩]) (.seq (.cond (.t 53) .skip (.exit 2)) (.seq (.block 3 (.seq (.reg [⟨(.some 54), (.iaddr 2 (.t 50) (.t 52)), .none⟩, ⟨(.some 55), (.load .any .true 2 (.t 54)), .none⟩, ⟨(.some 14), (.alloc [(.int .u8 0), (.int .u8 0)]), .none⟩, ⟨.none, (.store .any .true 2 (.t 14) (.t 55)), .none⟩]) (.reg [⟨(.some 56), (.mv (.t 7)), .none⟩, ⟨(.some 57), (.aaddr 2 1 (.t 14) (.c (.int .i64 0))), .none⟩, ⟨(.some 58), (.load .any .false 1 (.t 57)), .none⟩, ⟨(.some 59), (.conv (.some .i64) (.t 58)), .none⟩, ⟨(.some 60), (.faddr 0 (.t 8)), .none⟩, ⟨(.some 61), (.load .any .false 1 (.t 60)), .none⟩, ⟨(.some 62), (.bin .rem .false (.t 59) (.t 61)), .none⟩, ⟨(.some 63), (.aaddr 2 1 (.t 14) (.c (.int .i64 1))), .none⟩, ⟨(.some 64), (.load .any .false 1 (.t 63)), .none⟩, ⟨(.some 65), (.conv (.some .i64) (.t 64)), .none⟩, ⟨(.some 66), (.faddr 0 (.t 8)), .none⟩, ⟨(.some 67), (.load .any .false 1 (.t 66)), .none⟩, ⟨(.some 68), (.bin .rem .false (.t 65) (.t 67)), .none⟩, ⟨(.some 69), (.call .any 21 [(.t 56), (.t 62), (.t 68), (.c (.bool .true))]), .none⟩]))) (.reg [⟨(.some 70), (.bin .add .false (.t 52) (.c (.int .i64 1))), .none⟩, ⟨(.some 52), (.mv (.t 70)), .none⟩])))
def c8_4 : C := .seq (.reg [⟨(.some 41), (.bin .lss .false (.t 40) (.t 39)), .none⟩]) (.seq (.cond (.t 41) .skip (.exit 0)) (.seq (.block 1 (.seq (.reg [⟨(.some 42), (.iaddr 6 (.t 38) (.t 40)), .none⟩, ⟨(.some 43), (.load .any .true 6 (.t 42)), .none⟩, ⟨(.some 11), (.alloc [(.int .u8 0), (.int .i64 0), (.int .i64 0), (.int .i64 0), (.str (ByteArray.mk #[])), (.bool .false)]), .none⟩, ⟨.none, (.store .any .true 6 (.t 11) (.t 43)), .none⟩]) (.reg [⟨(.some 44), (.mv (.t 7)), .none⟩, ⟨(.some 45), (.load .any .true 6 (.t 11)), .none⟩, ⟨(.some 46), (.call .any 19 [(.t 44), (.t 45)]), .none⟩]))) (.reg [⟨(.some 47), (.bin .add .false (.t 40) (.c (.int .i64 1))), .none⟩, ⟨(.some 40), (.mv (.t 47)), .none⟩])))
def c8 : FnC := ⟨(.seq (.reg [⟨(.some 6), (.mv (.c (.bool .false))), .none⟩]) (.seq (.seq (.reg [⟨(.some 17), (.call .any 11 []), .none⟩, ⟨(.some 18), (.un .not (.t 17)), .none⟩, ⟨(.some 19), (.mv (.t 18)), .none⟩, ⟨(.some 20), (.mv (.t 1)), (.some (19, .false))⟩, ⟨(.some 21), (.call .any 16 [(.t 20), (.c (.int .i64 30))]), (.some (19, .false))⟩, ⟨(.some 22), (.un .not (.t 21)), (.some (19, .false))⟩, ⟨(.some 23), (.pick (.t 19) (.c (.bool .true)) (.t 22)), .none⟩, ⟨(.some 24), (.mv (.t 23)), .none⟩, ⟨(.some 25), (.mv (.t 2)), (.some (24, .false))⟩, ⟨(.some 26), (.len .false (.t 25)), (.some (24, .false))⟩, ⟨(.some 27), (.bin .gtr .false (.t 26) (.c (.int .i64 20))), (.some (24, .false))⟩, ⟨(.some 28), (.pick (.t 24) (.c (.bool .true)) (.t 27)), .none⟩]) (.cond (.t 28) (.seq (.reg [⟨(.some 29), (.call .any 11 []), .none⟩, ⟨(.some 6), (.mv (.t 29)), .none⟩]) .ret) .skip)) (.seq (.reg [⟨(.some 31), (.mv (.t 0)), .none⟩, ⟨(.some 32), (.call .any 17 [(.t 31)]), .none⟩, ⟨(.some 30), (.mv (.t 32)), .none⟩, ⟨(.some 33), (.ext (.t 30) 0), .none⟩, ⟨(.some 34), (.ext (.t 30) 1), .none⟩, ⟨(.some 35), (.ext (.t 30) 2), .none⟩, ⟨(.some 8), (.alloc [(.int .i64 0), (.int .i64 0), (.sl .true []), (.sl .true [])]), .none⟩, ⟨(.some 7), (.mv (.t 33)), .none⟩, ⟨.none, (.store .any .true 4 (.t 8) (.t 34)), .none⟩, ⟨(.some 9), (.mv (.t 35)), .none⟩]) (.seq (.seq (.reg [⟨(.some 36), (.mv (.t 9)), .none⟩, ⟨(.some 37), (.un .not (.t 36)), .none⟩]) (.cond (.t 37) (.seq (.reg [⟨(.some 6), (.mv (.c (.bool .false))), .none⟩]) .ret) .skip)) (.seq (.seq (.reg [⟨(.some 38), (.mv (.t 1)), .none⟩, ⟨(.some 39), (.len .false (.t 38)), .none⟩, ⟨(.some 40), (.mv (.c (.int .i64 0))), .none⟩]) (.block 0 (.loop c8_4))) (.seq (.reg [⟨(.some 48), (.mv (.t 7)), .none⟩, ⟨(.some 49), (.call .any 14 [(.t 48)]), .none⟩, ⟨(.some 12), (.mv (.t 49)), .none⟩]) (.seq (.seq (.reg [⟨(.some 50), (.mv (.t 2)), .none⟩, ⟨(.some 51), (.len .false (.t 50)), .none⟩, ⟨(.some 52), (.mv (.c (.int .i64 0))), .none⟩]) (.block 2 (.loop c8_3))) (.seq (.seq (.reg [⟨(.some 71), (.mv (.t 7)), .none⟩, ⟨(.some 72), (.call .any 14 [(.t 71)]), .none⟩, ⟨(.some 73), (.mv (.t 12)), .none⟩, ⟨(.some 74), (.call .any 22 [(.t 72), (.t 73)]), .none⟩, ⟨(.some 75), (.un .not (.t 74)), .none⟩]) (.cond (.t 75) (.seq (.reg [⟨(.some 6), (.mv (.c (.bool .false))), .none⟩]) .ret) .skip)) (.seq (.seq (.reg [⟨(.some 76), (.faddr 0 (.t 8)), .none⟩, ⟨(.some 77), (.load .any .false 1 (.t 76)), .none⟩, ⟨(.some 78), (.mv (.c (.int .i64 0))), .none⟩]) (.block 4 (.loop c8_2))) (.seq (.reg [⟨(.some 92), (.mv (.t 7)), .none⟩, ⟨(.some 93), (.call .any 14 [(.t 92)]), .none⟩, ⟨(.some 94), (.mv (.t 12)), .none⟩, ⟨(.some 95), (.call .any 22 [(.t 93), (.t 94)]), .none⟩, ⟨(.some 96), (.mv (.t 95)), .none⟩, ⟨(.some 97), (.mv (.t 7)), (.some (96, .true))⟩, ⟨(.some 98), (.call .any 15 [(.t 97)]), (.some (96, .true))⟩, ⟨(.some 99), (.mv (.t 12)), (.some (96, .true))⟩, ⟨(.some 100), (.call .any 22 [(.t 98), (.t 99)]), (.some (96, .true))⟩, ⟨(.some 101), (.pick (.t 96) (.t 100) (.c (.bool .false))), .none⟩, ⟨(.some 6), (.mv (.t 101)), .none⟩]) .ret)))))))))), [(.tmp 6)], 3⟩
set_option maxRecDepth 10000
set_option linter.unusedSimpArgs false
section
variable {T : Nat → Option FnC}
theorem exec_n (S : Net) (o : Op) : (S.exec o).1.n = S.n := by
  unfold Net.exec
  split
  · show (S.send o.a o.b o.data).1.n = S.n
    unfold Net.send Net.put
    split
    · split <;> rfl
    · rfl
  · split
    · show (S.deliver o.id).1.n = S.n
      unfold Net.deliver
      split
      · rfl
      · simp only; split <;> rfl
    · split
      · show (S.drop o.id).1.n = S.n
        unfold Net.drop
        split <;> rfl
      · split
        · show (S.copy o.id).1.n = S.n
          unfold Net.copy Net.put
          split
          · rfl
          · simp only; split <;> rfl
        · split
          · exact (setCut_same _ _ _ _).2.1
          · show (S.clear o.a).1.n = S.n
            unfold Net.clear
            split <;> rfl
theorem cut_ev (hT : T 21 = none) (S : Net) (a b : Int) (c : Bool) : evC T netExt 21 [.ptr 0 0 0, .int .i64 a, .int .i64 b, .bool c] (some (encN S)) = some (.int .i64 (S.setCut a b c).2, some (encN (S.setCut a b c).1)) := by
  refine evC_ext hT ?_
  simp [netExt, decN_enc]
theorem ready_ev (hT : T 15 = none) (S : Net) (hI : S.Inv) : evC T netExt 15 [.ptr 0 0 0] (some (encN S)) = some (pksA S.ready, some (encN S)) := by
  refine evC_ext hT ?_
  have h1 := hI.len
  have h3 : S.l.length ≤ 100 := by omega
  simp [netExt, decN_enc, h3]
def Kp8 (m8 : Nat) (s0 s : MSt) : Prop := s.env 2 = s0.env 2 ∧ s.env 7 = s0.env 7 ∧ s.env 8 = s0.env 8 ∧ s.env 12 = s0.env 12 ∧ s.mem 8 m8 = s0.mem 8 m8
/-- the operations -/
theorem heal_ops (hT1 : T 19 = none) (nl : Bool) (L : List Op) (hlen : L.length ≤ 1000) (hok : ∀ o ∈ L, o.ok) (m m8 : Nat) (N : Int) (r : RV) (k : Ex → MSt → Option RV) (s0 : MSt) (hk : ∀ (s : MSt) (S : Net), Kp8 m8 s0 s → S.Inv → S.Ok → S.n = N → s.obj 32 m = some (encN S) → k (.exit 0) s = some r) :
    ∀ (n i : Nat) (S : Net), i + n = L.length → S.Inv → S.Ok → S.n = N → S.last ≤ i → ∀ s : MSt, (s.env 40).v = .int .i64 i → (s.env 39).v = .int .i64 L.length → (s.env 38).v = opsA nl L → (s.env 7).v = .ptr 32 m 0 → Kp8 m8 s0 s → s.obj 32 m = some (encN S) → evL T netExt c8_4 s k = some r := by
  intro n
  induction n with
  | zero =>
    intro i S hi hI hO hN hl s e40 e39 e38 e7 hK ob
    obtain rfl : i = L.length := by omega
    refine evL_intro ?_
    simp [c8_4, C.run, runOps, OpC.step, OpC.eff, K.run, MSt.put, MSt.setObj, Opd.get, Opd.an, MSt.init, MSt.setRow, setRowC, AV.leaf, AV.whole, AV.cells, binC, eqC, natOf, loadC, loadI, Cl.okPtr, Cl.okMem, fillC, fin, finV, objAt, unname, resC, AV.free, AV.free0, AV.back, AV.backN, AV.isObj, AV.named, pack, lendAll, lend, objsOf, again, e40, e39]
    exact hk _ S (by simpa [Kp8] using hK) hI hO hN (by simpa using ob)
  | succ n ih =>
    intro i S hi hI hO hN hl s e40 e39 e38 e7 hK ob
    have hlt : i < L.length := by omega
    have hw : IntKind.i64.wrap ((i : Int) + 1) = ((i + 1 : Nat) : Int) := by rw [IntWalk.i64_in _ (by omega)]; rfl
    have ho := hok _ (List.getElem_mem hlt)
    have hdo := do_ev hT1 S hI (by omega) L[i] ho
    have hl' := Net.exec_last hI L[i]
    simp only [opC, resA] at hdo
    refine evL_intro ?_
    simp [c8_4, C.run, runOps, OpC.step, OpC.eff, K.run, MSt.put, MSt.setObj, Opd.get, Opd.an, MSt.init, MSt.setRow, setRowC, AV.leaf, AV.whole, AV.cells, binC, eqC, natOf, loadC, loadI, Cl.okPtr, Cl.okMem, fillC, fin, finV, objAt, unname, resC, AV.free, AV.free0, AV.back, AV.backN, AV.isObj, AV.named, pack, lendAll, lend, objsOf, again, e40, e39, e38, e7, hlt, opsA, opC, ob, hdo, hw]
    refine ih (i + 1) (S.exec L[i]).1 (by omega) (Net.exec_inv hI L[i]).1 (Net.exec_ok hO L[i]) (by rw [exec_n, hN]) (by omega) _ ?_ ?_ ?_ ?_ ?_ ?_ <;> first | (simp [e40, e39, e38, e7, hw, opsA, opC]; done) | (simpa [Kp8, opC] using hK)
/-- the cuts -/
def cutC (c : Int × Int) : List AV := [.int .u8 c.1, .int .u8 c.2]
theorem heal_cuts (hT1 : T 21 = none) (nl : Bool) (L : List (Int × Int)) (hlen : L.length ≤ 1000) (hok : ∀ o ∈ L, (0 ≤ o.1 ∧ o.1 ≤ 255) ∧ 0 ≤ o.2 ∧ o.2 ≤ 255) (m m8 : Nat) (N : Int) (hNz : N ≠ 0) (x1 x2 x3 : Slot) (l0 : List Pkt) (r : RV) (k : Ex → MSt → Option RV) (s0 : MSt) (hm8 : s0.mem 8 m8 = some [⟨.int .i64 N, .no⟩, x1, x2, x3])
    (h8 : (s0.env 8).v = .ptr 8 m8 0) (hk : ∀ (s : MSt) (S : Net), Kp8 m8 s0 s → S.Inv → S.Ok → S.n = N → S.l = l0 → s.obj 32 m = some (encN S) → k (.exit 2) s = some r) :
    ∀ (n i : Nat) (S : Net), i + n = L.length → S.Inv → S.Ok → S.n = N → S.l = l0 → ∀ s : MSt, (s.env 52).v = .int .i64 i → (s.env 51).v = .int .i64 L.length → (s.env 50).v = .sl nl (L.map cutC) → (s.env 7).v = .ptr 32 m 0 → Kp8 m8 s0 s → s.obj 32 m = some (encN S) → evL T netExt c8_3 s k = some r := by
  intro n
  induction n with
  | zero =>
    intro i S hi hI hO hN hl s e52 e51 e50 e7 hK ob
    obtain rfl : i = L.length := by omega
    refine evL_intro ?_
    simp [c8_3, C.run, runOps, OpC.step, OpC.eff, K.run, MSt.put, MSt.setObj, Opd.get, Opd.an, MSt.init, MSt.setRow, setRowC, AV.leaf, AV.whole, AV.cells, binC, eqC, natOf, loadC, loadI, Cl.okPtr, Cl.okMem, fillC, fin, finV, objAt, unname, resC, AV.free, AV.free0, AV.back, AV.backN, AV.isObj, AV.named, pack, lendAll, lend, objsOf, again, e52, e51]
    exact hk _ S (by simpa [Kp8] using hK) hI hO hN hl (by simpa using ob)
  | succ n ih =>
    intro i S hi hI hO hN hl s e52 e51 e50 e7 hK ob
    have hlt : i < L.length := by omega
    have hw : IntKind.i64.wrap ((i : Int) + 1) = ((i + 1 : Nat) : Int) := by rw [IntWalk.i64_in _ (by omega)]; rfl
    have ho := hok _ (List.getElem_mem hlt)
    have hw1 : IntKind.i64.wrap (L[i]).1 = (L[i]).1 := IntWalk.i64_in _ (by omega)
    have hw2 : IntKind.i64.wrap (L[i]).2 = (L[i]).2 := IntWalk.i64_in _ (by omega)
    have hc := cut_ev hT1 S ((L[i]).1.tmod N) ((L[i]).2.tmod N) true
    have e8 : (s.env 8).v = .ptr 8 m8 0 := by rw [hK.2.2.1]; exact h8
    have em : s.mem 8 m8 = some [⟨.int .i64 N, .no⟩, x1, x2, x3] := by rw [hK.2.2.2.2]; exact hm8
    obtain ⟨g1, g2, g3⟩ := setCut_same S ((L[i]).1.tmod N) ((L[i]).2.tmod N) true
    refine evL_intro ?_
    simp [c8_3, C.run, runOps, OpC.step, OpC.eff, K.run, MSt.put, MSt.setObj, Opd.get, Opd.an, MSt.init, MSt.setRow, setRowC, AV.leaf, AV.whole, AV.cells, binC, eqC, natOf, loadC, loadI, Cl.okPtr, Cl.okMem, fillC, fin, finV, objAt, unname, resC, AV.free, AV.free0, AV.back, AV.backN, AV.isObj, AV.named, pack, lendAll, lend, objsOf, again, e52, e51, e50, e7, hlt, cutC, ob, hw1, hw2, hc, hw, e8, em, hNz]
    refine ih (i + 1) (S.setCut ((L[i]).1.tmod N) ((L[i]).2.tmod N) true).1 (by omega) (hI.setCut _ _ _) (hO.setCut _ _ _) (by rw [g2, hN]) (by rw [g1, hl]) _ ?_ ?_ ?_ ?_ ?_ ?_ <;> first | (simp [e52, e51, e50, e7, hw, cutC]; done) | (simpa [Kp8, cutC] using hK)
/-- healing -/
def Kp12 (s0 s : MSt) : Prop := s.env 7 = s0.env 7 ∧ s.env 12 = s0.env 12 ∧ s.env 15 = s0.env 15 ∧ s.env 77 = s0.env 77 ∧ s.env 78 = s0.env 78
theorem heal_in (hT1 : T 21 = none) (m : Nat) (N : Int) (a : Nat) (ha : (a : Int) < N) (hN20 : N ≤ 20) (l0 : List Pkt) (r : RV) (k : Ex → MSt → Option RV) (s0 : MSt) (h15 : (s0.env 15).v = .int .i64 a) (h7 : (s0.env 7).v = .ptr 32 m 0)
    (hk : ∀ (s : MSt) (S : Net), Kp12 s0 s → S.Inv → S.Ok → S.n = N → S.l = l0 → S.Healed a a → s.obj 32 m = some (encN S) → k (.exit 6) s = some r) :
    ∀ (n b : Nat) (S : Net), b + n = a → S.Inv → S.Ok → S.n = N → S.l = l0 → S.Healed a b → ∀ s : MSt, (s.env 82).v = .int .i64 b → (s.env 81).v = .int .i64 a → Kp12 s0 s → s.obj 32 m = some (encN S) → evL T netExt c8_1 s k = some r := by
  intro n
  induction n with
  | zero =>
    intro b S hb hI hO hN hl hH s e82 e81 hK ob
    obtain rfl : b = a := by omega
    refine evL_intro ?_
    simp [c8_1, C.run, runOps, OpC.step, OpC.eff, K.run, MSt.put, MSt.setObj, Opd.get, Opd.an, MSt.init, MSt.setRow, setRowC, AV.leaf, AV.whole, AV.cells, binC, eqC, natOf, loadC, loadI, Cl.okPtr, Cl.okMem, fillC, fin, finV, objAt, unname, resC, AV.free, AV.free0, AV.back, AV.backN, AV.isObj, AV.named, pack, lendAll, lend, objsOf, again, e82, e81]
    exact hk _ S (by simpa [Kp12] using hK) hI hO hN hl hH (by simpa using ob)
  | succ n ih =>
    intro b S hb hI hO hN hl hH s e82 e81 hK ob
    have hlt : b < a := by omega
    have hlt' : (b : Int) < a := by omega
    have hw : IntKind.i64.wrap ((b : Int) + 1) = ((b + 1 : Nat) : Int) := by rw [IntWalk.i64_in _ (by omega)]; rfl
    have e15 : (s.env 15).v = .int .i64 a := by rw [hK.2.2.1]; exact h15
    have e7 : (s.env 7).v = .ptr 32 m 0 := by rw [hK.1]; exact h7
    have hr : 0 ≤ (b : Int) ∧ (b : Int) < a ∧ (a : Int) < S.n := by omega
    have hc := cut_ev hT1 S b a false
    rw [heal_ok hr] at hc
    obtain ⟨g1, g2, g3⟩ := setCut_same S b a false
    refine evL_intro ?_
    simp [c8_1, C.run, runOps, OpC.step, OpC.eff, K.run, MSt.put, MSt.setObj, Opd.get, Opd.an, MSt.init, MSt.setRow, setRowC, AV.leaf, AV.whole, AV.cells, binC, eqC, natOf, loadC, loadI, Cl.okPtr, Cl.okMem, fillC, fin, finV, objAt, unname, resC, AV.free, AV.free0, AV.back, AV.backN, AV.isObj, AV.named, pack, lendAll, lend, objsOf, again, e82, e81, e15, e7, hlt, hlt', ob, hc, hw]
    refine ih (b + 1) (S.setCut b a false).1 (by omega) (hI.setCut _ _ _) (hO.setCut _ _ _) (by rw [g2, hN]) (by rw [g1, hl]) (heal_step hr hH) _ ?_ ?_ ?_ ?_ <;> first | (simp [e82, e81, hw]; done) | (simpa [Kp12] using hK)
theorem heal_out (hT1 : T 21 = none) (m : Nat) (N : Nat) (hN20 : N ≤ 20) (l0 : List Pkt) (r : RV) (k : Ex → MSt → Option RV) (s0 : MSt) (h77 : (s0.env 77).v = .int .i64 N) (h7 : (s0.env 7).v = .ptr 32 m 0)
    (hk : ∀ (s : MSt) (S : Net), s.env 7 = s0.env 7 → s.env 12 = s0.env 12 → S.Inv → S.Ok → S.n = N → S.l = l0 → S.Healed N 0 → s.obj 32 m = some (encN S) → k (.exit 4) s = some r) :
    ∀ (n a : Nat) (S : Net), a + n = N → S.Inv → S.Ok → S.n = N → S.l = l0 → S.Healed a 0 → ∀ s : MSt, (s.env 78).v = .int .i64 a → s.env 77 = s0.env 77 → s.env 7 = s0.env 7 → s.env 12 = s0.env 12 → s.obj 32 m = some (encN S) → evL T netExt c8_2 s k = some r := by
  intro n
  induction n with
  | zero =>
    intro a S ha hI hO hN hl hH s e78 e77 e7 e12 ob
    obtain rfl : a = N := by omega
    refine evL_intro ?_
    simp [c8_2, C.run, runOps, OpC.step, OpC.eff, K.run, MSt.put, MSt.setObj, Opd.get, Opd.an, MSt.init, MSt.setRow, setRowC, AV.leaf, AV.whole, AV.cells, binC, eqC, natOf, loadC, loadI, Cl.okPtr, Cl.okMem, fillC, fin, finV, objAt, unname, resC, AV.free, AV.free0, AV.back, AV.backN, AV.isObj, AV.named, pack, lendAll, lend, objsOf, again, e78, e77, h77]
    exact hk _ S (by simpa using e7) (by simpa using e12) hI hO hN hl hH (by simpa using ob)
  | succ n ih =>
    intro a S ha hI hO hN hl hH s e78 e77 e7 e12 ob
    have hlt : a < N := by omega
    have hlt' : (a : Int) < N := by omega
    have hw : IntKind.i64.wrap ((a : Int) + 1) = ((a + 1 : Nat) : Int) := by rw [IntWalk.i64_in _ (by omega)]; rfl
    refine evL_intro ?_
    simp [c8_2, C.run, runOps, OpC.step, OpC.eff, K.run, MSt.put, MSt.setObj, Opd.get, Opd.an, MSt.init, MSt.setRow, setRowC, AV.leaf, AV.whole, AV.cells, binC, eqC, natOf, loadC, loadI, Cl.okPtr, Cl.okMem, fillC, fin, finV, objAt, unname, resC, AV.free, AV.free0, AV.back, AV.backN, AV.isObj, AV.named, pack, lendAll, lend, objsOf, again, e78, e77, h77, hlt]
    refine heal_in hT1 m N a hlt' (by omega) l0 r _ _ ?_ ?_ (fun s1 S1 hK hI1 hO1 hN1 hl1 hH1 ob1 => ?_) a 0 S (by omega) hI hO hN hl hH _ ?_ ?_ ⟨rfl, rfl, rfl, rfl, rfl⟩ ?_ <;> try (simp [e78, e77, e7, h7, ob]; done)
    obtain ⟨k7, k12, k15, k77, k78⟩ := hK
    simp [C.run, runOps, OpC.step, OpC.eff, K.run, MSt.put, MSt.setObj, Opd.get, Opd.an, MSt.init, MSt.setRow, setRowC, AV.leaf, AV.whole, AV.cells, binC, eqC, natOf, loadC, loadI, Cl.okPtr, Cl.okMem, fillC, fin, finV, objAt, unname, resC, AV.free, AV.free0, AV.back, AV.backN, AV.isObj, AV.named, pack, lendAll, lend, objsOf, again, k78, e78, hw]
    refine ih (a + 1) S1 (by omega) hI1 hO1 hN1 hl1 (heal_next hO1 hH1) _ ?_ ?_ ?_ ?_ ?_ <;> simp [k7, k12, k15, k77, k78, e7, e12, e77, e78, hw, ob1]
end
end Go.Proofs.Ytinpinjjdkilpaa
/- sheavelaw48.NetworkIDs: for every input it returns true and leaves its input as it was. No condition. -/
namespace Go.Proofs.Ytinpinjjdkilpaa
open Go Go.RowKit Go.ChangeShapes Go.WideShapes Go.ChangeAt
set_option maxRecDepth 10000
set_option linter.unusedSimpArgs false
section
variable {T : Nat → Option FnC}
theorem awake_ev (hT : T 11 = none) : evC T netExt 11 [] none = some (.bool true, none) := evC_ext hT (by simp [netExt])
theorem begin_ev (hT : T 17 = none) (k : Int) (h : 0 ≤ k ∧ k ≤ 255) : evC T netExt 17 [.int .u8 k] none = some (.tup [.ptr 0 0 0, .agg [.int .i64 (newSt (1 + k % 5)).n, .int .i64 (newSt (1 + k % 5)).next, .sl true [], .sl true []], .bool true], some (encN (newNet (1 + k % 5)))) := evC_ext hT (by simp [netExt, h])
theorem ids_ev (h1 : T 11 = none) (h2 : T 17 = none) (h3 : T 19 = none) (h4 : T 14 = none) (h5 : T 16 = some c16) (h6 : T 7 = some c7)
    (k : Int) (hk : 0 ≤ k ∧ k ≤ 255) (nl : Bool) (L : List Op) (hlen : L.length ≤ 9223372036854775807) (hok : ∀ o ∈ L, o.ok) : evC T netExt 7 [.int .u8 k, opsA nl L] none = some (.bool true, none) := by
  have ha := awake_ev h1
  have hb := begin_ev h2 k hk
  have hf := few_ev (ext := netExt) h5 nl L 30 hlen
  refine evC_intro c7 h6 rfl ?_
  cases hfb : fewB L 30 with
  | false =>
    rw [hfb] at hf
    simp only [opsA] at hf
    simp [c7, C.run, runOps, OpC.step, OpC.eff, K.run, MSt.put, MSt.setObj, Opd.get, Opd.an, MSt.init, MSt.setRow, setRowC, AV.leaf, AV.whole, AV.cells, binC, eqC, natOf, loadC, loadI, Cl.okPtr, Cl.okMem, fillC, fin, finV, objAt, unname, resC, AV.free, AV.free0, AV.back, AV.backN, AV.isObj, AV.named, pack, lendAll, lend, objsOf, again, ha, hf, opsA]
  | true =>
    have hL : L.length ≤ 30 := by
      simp only [fewB, Bool.and_eq_true, decide_eq_true_eq] at hfb
      omega
    rw [hfb] at hf
    simp only [opsA] at hf
    simp [c7, C.run, runOps, OpC.step, OpC.eff, K.run, MSt.put, MSt.setObj, Opd.get, Opd.an, MSt.init, MSt.setRow, setRowC, AV.leaf, AV.whole, AV.cells, binC, eqC, natOf, loadC, loadI, Cl.okPtr, Cl.okMem, fillC, fin, finV, objAt, unname, resC, AV.free, AV.free0, AV.back, AV.backN, AV.isObj, AV.named, pack, lendAll, lend, objsOf, again, ha, hf, hb, opsA]
    refine ids_out h3 h4 nl L (by omega) hok 3 _ _ (fun s => ?_) L.length 0 (newNet (1 + k % 5)) (by simp) (Net.Inv.new _) (by simp [newNet]) _ ?_ ?_ ?_ ?_ ?_ ?_ <;> simp [newNet, opsA, C.run, runOps, OpC.step, OpC.eff, K.run, MSt.put, MSt.setObj, Opd.get, Opd.an, MSt.init, MSt.setRow, setRowC, AV.leaf, AV.whole, AV.cells, binC, eqC, natOf, loadC, loadI, Cl.okPtr, Cl.okMem, fillC, fin, finV, objAt, unname, resC, AV.free, AV.free0, AV.back, AV.backN, AV.isObj, AV.named, pack, lendAll, lend, objsOf, again]
end
end Go.Proofs.Ytinpinjjdkilpaa
/- sheavelaw48.NetworkHealed: for every input it returns true and leaves its input as it was. No condition. -/
namespace Go.Proofs.Ytinpinjjdkilpaa
open Go Go.RowKit
set_option maxRecDepth 10000
set_option maxHeartbeats 4000000
set_option linter.unusedSimpArgs false
section
variable {T : Nat → Option FnC}
theorem healed_ev (h1 : T 11 = none) (h2 : T 17 = none) (h3 : T 19 = none) (h4 : T 14 = none) (h7 : T 15 = none) (h8 : T 21 = none) (h5 : T 16 = some c16) (h9 : T 22 = some c22) (h6 : T 8 = some c8)
    (k : Int) (hk : 0 ≤ k ∧ k ≤ 255) (nl : Bool) (L : List Op) (hlen : L.length ≤ 9223372036854775807) (hok : ∀ o ∈ L, o.ok) (ml : Bool) (M : List (Int × Int)) (hM : ∀ o ∈ M, (0 ≤ o.1 ∧ o.1 ≤ 255) ∧ 0 ≤ o.2 ∧ o.2 ≤ 255) : evC T netExt 8 [.int .u8 k, opsA nl L, .sl ml (M.map cutC)] none = some (.bool true, none) := by
  have ha := awake_ev h1
  have hb := begin_ev h2 k hk
  have hst : newSt (1 + k % 5) = ⟨1 + k % 5, 1, [], []⟩ := by unfold newSt; rw [if_pos (by omega)]
  rw [hst] at hb
  have hf := few_ev (ext := netExt) h5 nl L 30 hlen
  refine evC_intro c8 h6 rfl ?_
  cases hfb : fewB L 30 with
  | false =>
    rw [hfb] at hf
    simp only [opsA] at hf
    simp [c8, C.run, runOps, OpC.step, OpC.eff, K.run, MSt.put, MSt.setObj, Opd.get, Opd.an, MSt.init, MSt.setRow, setRowC, AV.leaf, AV.whole, AV.cells, binC, eqC, natOf, loadC, loadI, Cl.okPtr, Cl.okMem, fillC, fin, finV, objAt, unname, resC, AV.free, AV.free0, AV.back, AV.backN, AV.isObj, AV.named, pack, lendAll, lend, objsOf, again, ha, hf, opsA]
  | true =>
    have hL : L.length ≤ 30 := by
      simp only [fewB, Bool.and_eq_true, decide_eq_true_eq] at hfb
      omega
    rw [hfb] at hf
    simp only [opsA] at hf
    by_cases hM20 : M.length ≤ 20
    case neg =>
      have hM' : ¬ (M.length : Int) ≤ 20 := by omega
      simp [c8, C.run, runOps, OpC.step, OpC.eff, K.run, MSt.put, MSt.setObj, Opd.get, Opd.an, MSt.init, MSt.setRow, setRowC, AV.leaf, AV.whole, AV.cells, binC, eqC, natOf, loadC, loadI, Cl.okPtr, Cl.okMem, fillC, fin, finV, objAt, unname, resC, AV.free, AV.free0, AV.back, AV.backN, AV.isObj, AV.named, pack, lendAll, lend, objsOf, again, ha, hf, hb, opsA, hM']
    have hM' : (M.length : Int) ≤ 20 := by omega
    have hN : 1 ≤ 1 + k % 5 ∧ 1 + k % 5 ≤ 5 := by omega
    have hnN : (newNet (1 + k % 5)).n = 1 + k % 5 := rfl
    simp [c8, C.run, runOps, OpC.step, OpC.eff, K.run, MSt.put, MSt.setObj, Opd.get, Opd.an, MSt.init, MSt.setRow, setRowC, AV.leaf, AV.whole, AV.cells, binC, eqC, natOf, loadC, loadI, Cl.okPtr, Cl.okMem, fillC, fin, finV, objAt, unname, resC, AV.free, AV.free0, AV.back, AV.backN, AV.isObj, AV.named, pack, lendAll, lend, objsOf, again, ha, hf, hb, opsA, hM']
    refine heal_ops h3 nl L (by omega) hok 3 3 (1 + k % 5) _ _ _ (fun s1 S1 hK1 hI1 hO1 hN1 ob1 => ?main0) L.length 0 (newNet (1 + k % 5)) (by simp) (Net.Inv.new _) (Net.Ok.new (by omega)) rfl (by simp [newNet]) _ ?_ ?_ ?_ ?_ ⟨rfl, rfl, rfl, rfl, rfl⟩ ?_
    case main0 =>
      obtain ⟨a2, a7, a8, a12, a88⟩ := hK1
      have hp1 := pending_ev h4 S1 hI1
      simp [C.run, runOps, OpC.step, OpC.eff, K.run, MSt.put, MSt.setObj, Opd.get, Opd.an, MSt.init, MSt.setRow, setRowC, AV.leaf, AV.whole, AV.cells, binC, eqC, natOf, loadC, loadI, Cl.okPtr, Cl.okMem, fillC, fin, finV, objAt, unname, resC, AV.free, AV.free0, AV.back, AV.backN, AV.isObj, AV.named, pack, lendAll, lend, objsOf, again, a7, ob1, hp1, a2, pksA]
      refine heal_cuts h8 ml M (by omega) hM 3 3 (1 + k % 5) (by omega) ⟨.int .i64 1, .no⟩ ⟨.sl true [], .no⟩ ⟨.sl true [], .no⟩ S1.l _ _ _ (by simp [a88]) (by simp [a8]) (fun s2 S2 hK2 hI2 hO2 hN2 hl2 ob2 => ?main1) M.length 0 S1 (by simp) hI1 hO1 hN1 rfl _ ?_ ?_ ?_ ?_ ⟨rfl, rfl, rfl, rfl, rfl⟩ ?_
      case main1 =>
        obtain ⟨b2, b7, b8, b12, b88⟩ := hK2
        have hp2 := pending_ev h4 S2 hI2
        have hs2 := same_ev (ext := netExt) h9 false false S1.l S1.l (by have := hI1.len; omega)
        simp only [decide_true] at hs2
        rw [hl2] at hp2
        simp only [pksA] at hp2
        simp [C.run, runOps, OpC.step, OpC.eff, K.run, MSt.put, MSt.setObj, Opd.get, Opd.an, MSt.init, MSt.setRow, setRowC, AV.leaf, AV.whole, AV.cells, binC, eqC, natOf, loadC, loadI, Cl.okPtr, Cl.okMem, fillC, fin, finV, objAt, unname, resC, AV.free, AV.free0, AV.back, AV.backN, AV.isObj, AV.named, pack, lendAll, lend, objsOf, again, b7, a7, ob2, hp2, hs2, b12, b8, a8, b88, a88, pksA, newSt]
        refine heal_out h8 3 (1 + k % 5).toNat (by omega) S1.l _ _ _ ?_ ?_ (fun s3 S3 c7 c12 hI3 hO3 hN3 hl3 hH3 ob3 => ?main2) (1 + k % 5).toNat 0 S2 (by omega) hI2 hO2 (by omega) hl2 (heal_start S2 hO2) _ ?_ rfl rfl rfl ?_
        case main2 =>
          have hp3 := pending_ev h4 S3 hI3
          have hr3 := ready_ev h7 S3 hI3
          rw [heal_done hO3 (by omega) hH3] at hr3
          rw [hl3] at hp3 hr3
          simp only [pksA] at hp3 hr3
          simp [C.run, runOps, OpC.step, OpC.eff, K.run, MSt.put, MSt.setObj, Opd.get, Opd.an, MSt.init, MSt.setRow, setRowC, AV.leaf, AV.whole, AV.cells, binC, eqC, natOf, loadC, loadI, Cl.okPtr, Cl.okMem, fillC, fin, finV, objAt, unname, resC, AV.free, AV.free0, AV.back, AV.backN, AV.isObj, AV.named, pack, lendAll, lend, objsOf, again, c7, b7, a7, ob3, hp3, hr3, hs2, c12, b12]
        all_goals first | (simp [b7, a7, ob2, pksA, C.run, runOps, OpC.step, OpC.eff, K.run, MSt.put, MSt.setObj, Opd.get, Opd.an, MSt.init, MSt.setRow, setRowC, AV.leaf, AV.whole, AV.cells, binC, eqC, natOf, loadC, loadI, Cl.okPtr, Cl.okMem, fillC, fin, finV, objAt, unname, resC, AV.free, AV.free0, AV.back, AV.backN, AV.isObj, AV.named, pack, lendAll, lend, objsOf, again]; done) | (simp; omega)
      all_goals first | (simp [a2, a7, a8, ob1, pksA, C.run, runOps, OpC.step, OpC.eff, K.run, MSt.put, MSt.setObj, Opd.get, Opd.an, MSt.init, MSt.setRow, setRowC, AV.leaf, AV.whole, AV.cells, binC, eqC, natOf, loadC, loadI, Cl.okPtr, Cl.okMem, fillC, fin, finV, objAt, unname, resC, AV.free, AV.free0, AV.back, AV.backN, AV.isObj, AV.named, pack, lendAll, lend, objsOf, again]; done)
    all_goals first | (simp [newNet, opsA, C.run, runOps, OpC.step, OpC.eff, K.run, MSt.put, MSt.setObj, Opd.get, Opd.an, MSt.init, MSt.setRow, setRowC, AV.leaf, AV.whole, AV.cells, binC, eqC, natOf, loadC, loadI, Cl.okPtr, Cl.okMem, fillC, fin, finV, objAt, unname, resC, AV.free, AV.free0, AV.back, AV.backN, AV.isObj, AV.named, pack, lendAll, lend, objsOf, again]; done)
end
end Go.Proofs.Ytinpinjjdkilpaa
/- What the rows' arguments read as. -/
namespace Go.Proofs.Ytinpinjjdkilpaa
open Go Go.RowKit Go.ChangeShapes Go.WideShapes Go.ChangeAt
theorem mixed : Try.prog.follows .mixedOrders = true := by kernel_rfl
theorem ok16 : FnOk Try.prog 16 c16 := ⟨fun xs w => by kernel_rfl, _, Try.func16, by kernel_rfl⟩
theorem u8Ty {a : AV} (h : ParTy Try.prog 4 5 a) : ∃ k, a = .int .u8 k ∧ 0 ≤ k ∧ k ≤ 255 := by
  obtain ⟨sh, hs, h⟩ := h
  have hs' : shOf Try.prog 4 5 = some [.int .u8] := by kernel_rfl
  rw [hs'] at hs
  injection hs with hs
  subst hs
  rcases h with ⟨hw, _⟩ | ⟨_, h⟩
  · have hw' : wholeT Try.prog 5 = false := by kernel_rfl
    rw [hw'] at hw
    cases hw
  · simp only [TyL, TyC] at h
    obtain ⟨a, r, e, ⟨k, rfl, hk⟩, _⟩ := h
    injection e with e _
    simp only [Lit.wf, Bool.and_eq_true, decide_eq_true_eq] at hk
    have h1 : IntKind.u8.min = 0 := rfl
    have h2 : IntKind.u8.max = 255 := rfl
    exact ⟨k, e, by omega, by omega⟩
def opSh : List Cs := [.int .u8, .int .i64, .int .i64, .int .i64, .str, .bool]
theorem opTy {xs : List AV} (h : TyL opSh xs) : ∃ o : Op, xs = opC o ∧ o.ok := by
  simp only [opSh, TyL, TyC] at h
  obtain ⟨_, _, rfl, ⟨k, rfl, hk⟩, _, _, rfl, ⟨a, rfl, _⟩, _, _, rfl, ⟨b, rfl, _⟩, _, _, rfl, ⟨i, rfl, _⟩, _, _, rfl, ⟨s, rfl, _⟩, _, _, rfl, ⟨c, rfl⟩, rfl⟩ := h
  simp only [Lit.wf, Bool.and_eq_true, decide_eq_true_eq] at hk
  have h1 : IntKind.u8.min = 0 := rfl
  have h2 : IntKind.u8.max = 255 := rfl
  exact ⟨⟨k, a, b, i, s, c⟩, rfl, by show 0 ≤ k; omega, by show k ≤ 255; omega⟩
theorem opsTy {a : AV} (h : ParTy Try.prog 4 35 a) : ∃ nl L, a = opsA nl L ∧ L.length ≤ 9223372036854775807 ∧ ∀ o ∈ L, o.ok := by
  obtain ⟨sh, hs, h⟩ := h
  have hs' : shOf Try.prog 4 35 = some [.sl opSh] := by kernel_rfl
  rw [hs'] at hs
  injection hs with hs
  subst hs
  rcases h with ⟨hw, _⟩ | ⟨_, h⟩
  · have hw' : wholeT Try.prog 35 = false := by kernel_rfl
    rw [hw'] at hw
    cases hw
  · simp only [TyL, TyC] at h
    obtain ⟨a, r, e, ⟨nl, els, rfl, hle, hk⟩, _⟩ := h
    injection e with e _
    have : ∀ els : List (List AV), (∀ x ∈ els, TyL opSh x) → ∃ L : List Op, els = L.map opC ∧ ∀ o ∈ L, o.ok := fun els => by
      induction els with
      | nil => exact fun _ => ⟨[], rfl, fun _ h => by cases h⟩
      | cons x r ih =>
        intro h
        obtain ⟨o, rfl, ho⟩ := opTy (h x List.mem_cons_self)
        obtain ⟨L, rfl, hL⟩ := ih fun y hy => h y (List.mem_cons_of_mem _ hy)
        exact ⟨o :: L, rfl, fun p hp => by
          rcases List.mem_cons.1 hp with rfl | hp
          · exact ho
          · exact hL p hp⟩
    obtain ⟨L, rfl, hL⟩ := this els hk
    refine ⟨nl, L, e, ?_, hL⟩
    have : maxLen = 9223372036854775807 := rfl
    simpa [this] using hle
end Go.Proofs.Ytinpinjjdkilpaa
/- sheavelaw48.NetworkHealed: for every input it returns true and leaves its input as it was. No condition. -/
namespace Go.Proofs.Ytinpinjjdkilpaa
open Go Go.RowKit Go.ChangeShapes Go.WideShapes Go.ChangeAt
/-- the functions that the machine runs -/
def healT : Nat → Option FnC := fun f => if f = 16 then some c16 else if f = 8 then some c8 else if f = 22 then some c22 else none
theorem ok8 : FnOk Try.prog 8 c8 := ⟨fun xs w => by kernel_rfl, _, Try.func8, by kernel_rfl⟩
theorem ok22 : FnOk Try.prog 22 c22 := ⟨fun xs w => by kernel_rfl, _, Try.func22, by kernel_rfl⟩
theorem healT_ok (f : Nat) (c : FnC) (h : healT f = some c) : FnOk Try.prog f c := by
  unfold healT at h
  split at h
  · rename_i e; subst e; injection h with h; subst h; exact ok16
  · split at h
    · rename_i e; subst e; injection h with h; subst h; exact ok8
    · split at h
      · rename_i e; subst e; injection h with h; subst h; exact ok22
      · cases h
theorem cutsTy {a : AV} (h : ParTy Try.prog 4 54 a) : ∃ (nl : Bool) (M : List (Int × Int)), a = .sl nl (M.map cutC) ∧ ∀ o ∈ M, (0 ≤ o.1 ∧ o.1 ≤ 255) ∧ 0 ≤ o.2 ∧ o.2 ≤ 255 := by
  obtain ⟨sh, hs, h⟩ := h
  have hs' : shOf Try.prog 4 54 = some [.sl [.int .u8, .int .u8]] := by kernel_rfl
  rw [hs'] at hs
  injection hs with hs
  subst hs
  rcases h with ⟨hw, _⟩ | ⟨_, h⟩
  · have hw' : wholeT Try.prog 54 = false := by kernel_rfl
    rw [hw'] at hw
    cases hw
  · simp only [TyL, TyC] at h
    obtain ⟨a, r, e, ⟨nl, els, rfl, hle, hk⟩, _⟩ := h
    injection e with e _
    have h1 : IntKind.u8.min = 0 := rfl
    have h2 : IntKind.u8.max = 255 := rfl
    have : ∀ els : List (List AV), (∀ x ∈ els, TyL [.int .u8, .int .u8] x) → ∃ L : List (Int × Int), els = L.map cutC ∧ ∀ o ∈ L, (0 ≤ o.1 ∧ o.1 ≤ 255) ∧ 0 ≤ o.2 ∧ o.2 ≤ 255 := fun els => by
      induction els with
      | nil => exact fun _ => ⟨[], rfl, fun _ h => by cases h⟩
      | cons x r ih =>
        intro h
        have hx := h x List.mem_cons_self
        simp only [TyL, TyC] at hx
        obtain ⟨_, _, rfl, ⟨u, rfl, hu⟩, _, _, rfl, ⟨v, rfl, hv⟩, rfl⟩ := hx
        obtain ⟨L, rfl, hL⟩ := ih fun y hy => h y (List.mem_cons_of_mem _ hy)
        simp only [Lit.wf, Bool.and_eq_true, decide_eq_true_eq, h1, h2] at hu hv
        exact ⟨(u, v) :: L, rfl, fun p hp => by
          rcases List.mem_cons.1 hp with rfl | hp
          · exact ⟨hu, hv⟩
          · exact hL p hp⟩
    have hels : ∀ x ∈ els, TyL [.int .u8, .int .u8] x := fun x hx => by simpa only [TyL, TyC] using hk x hx
    obtain ⟨L, rfl, hL⟩ := this els hels
    exact ⟨nl, L, e, hL⟩
set_option maxRecDepth 100000 in
theorem networkHealed_lifted (os : Os) (started : os.Started) (H : Type) (enc : TypeId × Value → H) :
    ReturnsInHanded {} Try.checked os 8 .any (Rows.networkHealedSpec.pre6 enc Try.prog Try.f8 Rows.networkHealedRow.domain false) (Rows.networkHealedSpec.post enc Try.prog Try.f8 false true false false) := by
  refine returnsInHanded_of_change (C := Try.checked) own started (by kernel_rfl) Try.func8
    (ChangeSpec.witness6 (enc := enc) (C := Try.checked) false ⟨#[], #[.int .u8 0, .slice none 0 0, .slice none 0 0], []⟩ 8 (by kernel_rfl) (by kernel_rfl) (by kernel_rfl) (by kernel_rfl)) ?_
  intro W base args ds gs before hval0 hW hcnd _
  have hval : ∀ (j : Nat) t v, Try.f8.params[j]? = some t → args[j]? = some v → Value.okWide Try.prog W .any base t v := hval0
  have hW' := hW
  obtain ⟨p, q, hA0, hV, rfl, hfz, hnd⟩ := hW
  have hA : DataW.TrodAll enc Try.prog W 0 (fun _ => true) true Try.f8.params.toList args.toList ds p := hA0
  rw [Try.params8] at hA hval
  have hA1 : DataW.TrodAll enc Try.prog W 0 (fun _ => true) true [5, 35, 54] args.toList ds p := hA
  obtain ⟨xs, hx, hty⟩ := args_rep (k := 4) hA1 (fun j t v e e' => hval j t v (by simpa using e) (by simpa using e')) (by kernel_rfl)
  simp only [ArgsTy] at hty
  obtain ⟨a0, _, rfl, t0, a1, _, rfl, t1, a2, _, rfl, t2, rfl⟩ := hty
  obtain ⟨k, rfl, hk0, hk1⟩ := u8Ty t0
  obtain ⟨nl, L, rfl, hlen, hok⟩ := opsTy t1
  obtain ⟨ml, M, rfl, hM⟩ := cutsTy t2
  have hd : ∃ d0 d1 d2, ds = [d0, d1, d2] := by
    obtain ⟨_, _, d0, _, _, _, _, rfl, _, _, r0⟩ := trodAll_cons hA1
    obtain ⟨_, _, d1, _, _, _, _, rfl, _, _, r1⟩ := trodAll_cons r0
    obtain ⟨_, _, d2, _, _, _, _, rfl, _, _, r2⟩ := trodAll_cons r1
    obtain ⟨_, rfl, _⟩ := trodAll_nil r2
    exact ⟨d0, d1, d2, rfl⟩
  obtain ⟨d0, d1, d2, rfl⟩ := hd
  obtain ⟨rfl, rfl⟩ := trodVars_none hV
  have hev := healed_ev (T := healT) rfl rfl rfl rfl rfl rfl rfl rfl rfl k ⟨hk0, hk1⟩ nl L hlen hok ml M hM
  have hC := (ev_sound mixed healT_ok netExt_ok hev).2 Av0 W args.toList (fun _ _ h => h.elim) hx
  rw [Array.toArray_toList] at hC
  refine hC.mono fun e W' ⟨v, he, hv, hb⟩ => ?_
  have hv' : v = .bool true := hv
  subst he
  subst hv'
  exact ⟨_, rfl, post_of_below (pa := p) (pv := []) hW' (fun _ _ _ => trodAll_cons_mk (shut_bool Try.underlying4 _) trodAll_mk0) (args_back laidOut hb hA1 (by kernel_rfl)) rfl hb⟩
theorem networkHealed_holds : Rows.NetworkHealedSaid :=
  OpenClaim.holds_of_wide 8 Try.f8 rfl rfl rfl rfl rfl rfl rfl ⟨rfl, rfl, rfl, rfl, rfl⟩ rfl rfl rfl rfl rfl (by kernel_rfl) Try.func8 (by kernel_rfl)
    (of_decide_eq_true (by kernel_rfl)) (by unfold Func.isWrapper; first | (rw [if_pos (by decide +kernel)]; kernel_rfl) | (rw [if_neg (by decide +kernel)]; exact ⟨rfl, rfl⟩))
    (fun os started H enc _ => networkHealed_lifted os started H enc)
end Go.Proofs.Ytinpinjjdkilpaa
