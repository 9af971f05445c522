/- sheavelaw47.EventsPeek: for every input it returns true and leaves its input as it was. No condition. -/
import Derived.Test.YtbpbeogipgfjiaaMb
import Derived.Test.YtbpbeogipgfjiaaMd
set_option linter.unusedSimpArgs false
set_option linter.unusedVariables false
set_option linter.unusedSectionVars false
/- The queue as an object of the machine: its methods' contracts. -/
namespace Go.Proofs.Ytbpbeogipgfjiaa
open Go Go.RowKit
set_option linter.unusedSimpArgs false
def evsA (l : List Evt) : AV := .sl false (l.map Evt.cv)
def encQ (S : Que) : AV := .tup [.int .i64 S.clock, .int .i64 S.last, evsA S.l]
def decE : List AV → Option Evt
  | [.int _ a, .int _ b, .int _ c, .int _ d, .int _ e] => some ⟨a, b, c, d, e⟩
  | _ => none
def decQ : AV → Option Que
  | .tup [.int _ clock, .int _ last, .sl _ l] => some ⟨clock, last, l.filterMap decE⟩
  | _ => none
theorem decQ_enc (S : Que) : decQ (encQ S) = some S := by
  obtain ⟨clock, last, l⟩ := S
  have h1 : (l.map Evt.cv).filterMap decE = l := by
    rw [List.filterMap_map]
    exact List.filterMap_some
  simp only [encQ, evsA, decQ, h1]
theorem que_heap {w w' : World} {x : Nat} {v : Value} {S : Que} (h : QueAt w x v S) (hh : w.heap = w'.heap) : QueAt w' x v S := by
  refine ⟨hh ▸ h.1, ?_⟩
  rcases h.2 with h | ⟨g, off, c, hv, h1, h2, h3⟩
  · exact .inl h
  · exact .inr ⟨g, off, c, hv, hh ▸ h1, h2, h3⟩
def queObjs : Objs where
  at_ A H p w := ∃ S v, A = encQ S ∧ QueAt w p v S ∧ ∀ b, H b ↔ QueF p v b
  keep := fun {A H p w w'} h hb hs => by
    obtain ⟨S, v, hA, h, hH⟩ := h
    have hk : Keep (fun b => ¬ H b) w { w' with os := w.os, tape := w.tape, output := w.output } := ⟨rfl, rfl, rfl, hs, fun k _ hn => hb k (Classical.not_not.1 hn)⟩
    have := h.keep hk fun b hf hn => hn ((hH b).2 hf)
    exact ⟨S, v, hA, que_heap this rfl, hH⟩
  main := fun {A H p w} h => by
    obtain ⟨S, v, hA, h, hH⟩ := h
    exact (hH p).2 (.inl rfl)
  lt := fun {A H p w b} h hb => by
    obtain ⟨S, v, hA, h, hH⟩ := h
    exact h.lt ((hH b).1 hb)
section
variable {av : Av} {w w' : World}
theorem ecv_rep (p : Evt) : RepL av w p.cv p.cells := by
  exact ⟨_, _, rfl, rfl, rfl, _, _, rfl, rfl, rfl, _, _, rfl, rfl, rfl, _, _, rfl, rfl, rfl, _, _, rfl, rfl, rfl, rfl⟩
theorem evA_rep (p : Evt) : Rep av w (.agg p.cv) p.val := ⟨_, rfl, ecv_rep p⟩
theorem ec_rep : ∀ (l : List Evt), RepL av w (l.map Evt.cv).flatten (ec l)
  | [] => by simp [RepL, ec]
  | p :: l => by
    have : ec (p :: l) = p.cells ++ ec l := by simp [ec]
    rw [this, List.map_cons, List.flatten_cons]
    exact RepL_append (ecv_rep p) (ec_rep l)
theorem evs_rep {v : Value} {l : List Evt} (h : EOwn w v l) (hav : ∀ b o, blkOf v = some b → ¬ av b o) : Rep av w (evsA l) v := by
  have huni : ∀ x ∈ l.map Evt.cv, ∀ y ∈ l.map Evt.cv, x.length = y.length := fun x hx y hy => by
    obtain ⟨p, _, rfl⟩ := List.mem_map.1 hx
    obtain ⟨q, _, rfl⟩ := List.mem_map.1 hy
    rfl
  simp only [evsA, Rep, List.length_map]
  rcases h with ⟨rfl, rfl⟩ | ⟨g, off, c, rfl, hE⟩
  · refine ⟨none, 0, rfl, Nat.le_refl _, huni, (fun h => by cases h), fun _ => ⟨fun _ => rfl, fun h => by simp at h⟩⟩
  · refine ⟨_, c, rfl, hE.len, huni, (fun h => by cases h), fun _ => ⟨fun h => (by cases h), fun _ => ⟨g, off, rfl, ?_⟩⟩⟩
    refine Rows_flat.2 (Cells_mk (ec_rep l) fun j u hu => ⟨?_, hav g _ rfl⟩)
    exact hE.cells j u hu
/-- how a method over the queue ends -/
theorem que_post {H : Nat → Prop} {p : Nat} {S' : Que} {v r : Value} {e : Ending} (hH : ∀ b, H b ↔ QueF p v b) (h : QMeth p v w S' r e w') :
    e = .returned r ∧ ∃ H', queObjs.at_ (encQ S') H' p w' ∧ (∀ b, H' b → H b ∨ w.heap.size ≤ b) ∧ Keep H w w' := by
  obtain ⟨he, v', hQ, hk, hb⟩ := h
  exact ⟨he, QueF p v', ⟨S', v', rfl, hQ, fun b => Iff.rfl⟩, fun b h => (hb b h).imp (hH b).2 id, hk.mono fun i _ h => (hH i).2 h⟩
theorem que_pre {H : Nat → Prop} {p : Nat} {A : AV} {S : Que} (h : queObjs.at_ A H p w) (hd : decQ A = some S) : A = encQ S ∧ ∃ v, QueAt w p v S ∧ ∀ b, H b ↔ QueF p v b := by
  obtain ⟨S1, v, rfl, hN, hH⟩ := h
  rw [decQ_enc] at hd
  injection hd with hd
  subst hd
  exact ⟨rfl, v, hN, hH⟩
theorem que_arg {p : Nat} {av avl : Av} {w : World} {u : Value} (h : RepS (Ix.one p) av avl w (.ptr 0 0 0) u) : u = .pointer (some ⟨p, 0, none⟩) := by
  obtain ⟨b, hb, hu⟩ := h
  have : (some p : Option Nat) = some b := hb
  injection this with this
  rw [hu, this]
end
section
variable {A : AV} {S : Que}
theorem ok_qnow (hd : decQ A = some S) : CallOk Try.prog queObjs 13 [.ptr 0 0 0] (some A) (.tup [.int .i64 S.clock, .int .i64 S.l.length], some (encQ S)) := by
  refine ⟨fun xs w => by kernel_rfl, fun av w vs p H hav hH hat hargs => ?_⟩
  simp only [RepA] at hargs
  obtain ⟨u1, us, rfl, hu1, rfl⟩ := hargs
  have e1 := que_arg hu1
  subst e1
  obtain ⟨rfl, v, hQ, hF⟩ := que_pre (w := w) hat hd
  refine (now_any p v S w hQ).mono fun e w' h => ?_
  obtain ⟨rfl, H', hat', hH', hk⟩ := que_post hF h
  exact ⟨_, H', rfl, ⟨_, rfl, _, _, rfl, rfl, _, _, rfl, rfl, rfl⟩, hat', hH', hk⟩
theorem ok_qpop (hd : decQ A = some S) (hl : S.l.length ≤ 900) : CallOk Try.prog queObjs 15 [.ptr 0 0 0] (some A) (.tup [.agg S.pop.2.1.cv, .bool S.pop.2.2], some (encQ S.pop.1)) := by
  refine ⟨fun xs w => by kernel_rfl, fun av w vs p H hav hH hat hargs => ?_⟩
  simp only [RepA] at hargs
  obtain ⟨u1, us, rfl, hu1, rfl⟩ := hargs
  have e1 := que_arg hu1
  subst e1
  obtain ⟨rfl, v, hQ, hF⟩ := que_pre (w := w) hat hd
  refine (pop_any p v S w hQ hl).mono fun e w' h => ?_
  obtain ⟨rfl, H', hat', hH', hk⟩ := que_post hF h
  exact ⟨_, H', rfl, ⟨_, rfl, _, _, rfl, evA_rep _, _, _, rfl, rfl, rfl⟩, hat', hH', hk⟩
theorem ok_qpeek (hd : decQ A = some S) (hl : S.l.length ≤ 900) : CallOk Try.prog queObjs 16 [.ptr 0 0 0] (some A) (.tup [.agg S.peek.1.cv, .bool S.peek.2], some (encQ S)) := by
  refine ⟨fun xs w => by kernel_rfl, fun av w vs p H hav hH hat hargs => ?_⟩
  simp only [RepA] at hargs
  obtain ⟨u1, us, rfl, hu1, rfl⟩ := hargs
  have e1 := que_arg hu1
  subst e1
  obtain ⟨rfl, v, hQ, hF⟩ := que_pre (w := w) hat hd
  refine (peek_any p v S w hQ hl).mono fun e w' h => ?_
  obtain ⟨rfl, H', hat', hH', hk⟩ := que_post hF (qmeth_same hQ h.2 h.1)
  exact ⟨_, H', rfl, ⟨_, rfl, _, _, rfl, evA_rep _, _, _, rfl, rfl, rfl⟩, hat', hH', hk⟩
theorem ok_qcancel (hd : decQ A = some S) (hl : S.l.length ≤ 900) (seq : Int) : CallOk Try.prog queObjs 20 [.ptr 0 0 0, .int .i64 seq] (some A) (.bool (S.cancel seq).2, some (encQ (S.cancel seq).1)) := by
  refine ⟨fun xs w => by kernel_rfl, fun av w vs p H hav hH hat hargs => ?_⟩
  simp only [RepA] at hargs
  obtain ⟨u1, us, rfl, hu1, u2, us2, rfl, hu2, rfl⟩ := hargs
  have e1 := que_arg hu1
  subst e1
  have e2 : u2 = .int .i64 seq := hu2
  subst e2
  obtain ⟨rfl, v, hQ, hF⟩ := que_pre (w := w) hat hd
  refine (cancel_any p v S seq w hQ hl).mono fun e w' h => ?_
  obtain ⟨rfl, H', hat', hH', hk⟩ := que_post hF h
  exact ⟨_, H', rfl, rfl, hat', hH', hk⟩
theorem ok_quntil (hd : decQ A = some S) (hl : S.l.length ≤ 900) (t : Int) : CallOk Try.prog queObjs 17 [.ptr 0 0 0, .int .i64 t] (some A) (evsA (S.until t).2, some (encQ (S.until t).1)) := by
  refine ⟨fun xs w => by kernel_rfl, fun av w vs p H hav hH hat hargs => ?_⟩
  simp only [RepA] at hargs
  obtain ⟨u1, us, rfl, hu1, u2, us2, rfl, hu2, rfl⟩ := hargs
  have e1 := que_arg hu1
  subst e1
  have e2 : u2 = .int .i64 t := hu2
  subst e2
  obtain ⟨rfl, v, hQ, hF⟩ := que_pre (w := w) hat hd
  refine (until_any p v S t w hQ hl).mono fun e w' h => ?_
  obtain ⟨u, v', rfl, hu, hQ', hk, hbl, hfr⟩ := h
  refine ⟨u, QueF p v', rfl, evs_rep hu fun b o hv hx => ?_, ⟨_, v', rfl, hQ', fun b => Iff.rfl⟩, fun b h => .inl ((hF b).2 (hbl b h)), hk.mono fun i _ h => (hF i).2 h⟩
  have := hfr b hv
  rcases hx with hx | hx
  · have := hav b o hx; omega
  · have := hQ.lt (hbl b hx); omega
end
theorem ok_qnew : CallOk Try.prog queObjs 11 [] none (.ptr 0 0 0, some (encQ ⟨0, 0, []⟩)) := by
  refine ⟨fun xs w => by kernel_rfl, fun av w vs hav hargs => ?_⟩
  simp only [RepA] at hargs
  subst hargs
  refine (qnew_any w).mono ?_
  rintro e w' ⟨rfl, hQ, hb⟩
  refine ⟨_, w.heap.size, QueF w.heap.size (.slice none 0 0), rfl, rfl, ⟨_, _, rfl, hQ, fun b => Iff.rfl⟩, ?_, hb⟩
  rintro b (rfl | h)
  · exact Nat.le_refl _
  · cases h
end Go.Proofs.Ytbpbeogipgfjiaa
/- Push as a contract; the table of the queue's contracts. -/
namespace Go.Proofs.Ytbpbeogipgfjiaa
open Go Go.RowKit
set_option linter.unusedSimpArgs false
instance (a b : Evt) : Decidable (ltE a b) := by unfold ltE; infer_instance
def Que.push (S : Que) (a k n g : Int) : Que × Int × Int := if a < S.clock then (S, 0, 7) else (S.pushed a k n g, S.last + 1, 0)
/-- what Push asks of the queue -/
def Que.Ok (S : Que) : Prop := S.l.length ≤ 800 ∧ S.l.Pairwise ltE ∧ 0 ≤ S.last ∧ S.last ≤ 1000000
instance (S : Que) : Decidable S.Ok := by unfold Que.Ok; infer_instance
section
variable {A : AV} {S : Que}
theorem ok_qpush (hd : decQ A = some S) (hok : S.Ok) (a k n g : Int) : CallOk Try.prog queObjs 19 [.ptr 0 0 0, .int .i64 a, .int .i64 k, .int .i64 n, .int .i64 g] (some A) (.tup [.int .i64 (S.push a k n g).2.1, .int .i64 (S.push a k n g).2.2], some (encQ (S.push a k n g).1)) := by
  refine ⟨fun xs w => by kernel_rfl, fun av w vs p H hav hH hat hargs => ?_⟩
  simp only [RepA] at hargs
  obtain ⟨u1, us, rfl, hu1, u2, us2, rfl, hu2, u3, us3, rfl, hu3, u4, us4, rfl, hu4, u5, us5, rfl, hu5, rfl⟩ := hargs
  have e1 := que_arg hu1
  subst e1
  have e2 : u2 = .int .i64 a := hu2
  have e3 : u3 = .int .i64 k := hu3
  have e4 : u4 = .int .i64 n := hu4
  have e5 : u5 = .int .i64 g := hu5
  subst e2 e3 e4 e5
  obtain ⟨rfl, v, hQ, hF⟩ := que_pre (w := w) hat hd
  have hp : Calls Try.prog 19 #[.pointer (some ⟨p, 0, none⟩), .int .i64 a, .int .i64 k, .int .i64 n, .int .i64 g] w (QMeth p v w (S.push a k n g).1 (.tuple #[.int .i64 (S.push a k n g).2.1, .int .i64 (S.push a k n g).2.2])) := by
    unfold Que.push
    by_cases h : a < S.clock
    · simp only [h, if_true]
      exact push_bad p v S a k n g w hQ h
    · simp only [h, if_false]
      exact push_good p v S a k n g w hQ h hok.1 hok.2.1 hok.2.2.1 hok.2.2.2
  refine hp.mono fun e w' h => ?_
  obtain ⟨rfl, H', hat', hH', hk⟩ := que_post hF h
  exact ⟨_, H', rfl, ⟨_, rfl, _, _, rfl, rfl, _, _, rfl, rfl, rfl⟩, hat', hH', hk⟩
end
def queExt : CallT := fun f args S0 =>
  if f = 11 then match args, S0 with
    | [], none => some (.ptr 0 0 0, some (encQ ⟨0, 0, []⟩))
    | _, _ => none
  else if f = 13 then match args, S0.bind decQ with
    | [.ptr 0 0 0], some S => some (.tup [.int .i64 S.clock, .int .i64 S.l.length], some (encQ S))
    | _, _ => none
  else if f = 16 then match args, S0.bind decQ with
    | [.ptr 0 0 0], some S => if S.l.length ≤ 900 then some (.tup [.agg S.peek.1.cv, .bool S.peek.2], some (encQ S)) else none
    | _, _ => none
  else if f = 15 then match args, S0.bind decQ with
    | [.ptr 0 0 0], some S => if S.l.length ≤ 900 then some (.tup [.agg S.pop.2.1.cv, .bool S.pop.2.2], some (encQ S.pop.1)) else none
    | _, _ => none
  else if f = 20 then match args, S0.bind decQ with
    | [.ptr 0 0 0, .int .i64 seq], some S => if S.l.length ≤ 900 then some (.bool (S.cancel seq).2, some (encQ (S.cancel seq).1)) else none
    | _, _ => none
  else if f = 17 then match args, S0.bind decQ with
    | [.ptr 0 0 0, .int .i64 t], some S => if S.l.length ≤ 900 then some (evsA (S.until t).2, some (encQ (S.until t).1)) else none
    | _, _ => none
  else if f = 19 then match args, S0.bind decQ with
    | [.ptr 0 0 0, .int .i64 a, .int .i64 k, .int .i64 n, .int .i64 g], some S => if S.Ok then some (.tup [.int .i64 (S.push a k n g).2.1, .int .i64 (S.push a k n g).2.2], some (encQ (S.push a k n g).1)) else none
    | _, _ => none
  else none
theorem decq_bind {S0 : Option AV} {S : Que} (h : S0.bind decQ = some S) : ∃ A, S0 = some A ∧ decQ A = some S := Option.bind_eq_some_iff.1 h
theorem queExt_ok (f : Nat) (args : List AV) (S0 : Option AV) (r : RV) (h : queExt f args S0 = some r) : CallOk Try.prog queObjs f args S0 r := by
  unfold queExt at h
  split at h
  · rename_i hf
    subst hf
    split at h
    · injection h with h; subst h; exact ok_qnew
    · cases h
  · split at h
    · rename_i hf
      subst hf
      split at h
      · rename_i hS
        obtain ⟨A, rfl, hd⟩ := decq_bind hS
        injection h with h; subst h; exact ok_qnow hd
      · cases h
    · split at h
      · rename_i hf
        subst hf
        split at h
        · rename_i hS
          obtain ⟨A, rfl, hd⟩ := decq_bind hS
          split at h
          · rename_i hk
            injection h with h; subst h; exact ok_qpeek hd hk
          · cases h
        · cases h
      · split at h
        · rename_i hf
          subst hf
          split at h
          · rename_i hS
            obtain ⟨A, rfl, hd⟩ := decq_bind hS
            split at h
            · rename_i hk
              injection h with h; subst h; exact ok_qpop hd hk
            · cases h
          · cases h
        · split at h
          · rename_i hf
            subst hf
            split at h
            · rename_i hS
              obtain ⟨A, rfl, hd⟩ := decq_bind hS
              split at h
              · rename_i hk
                injection h with h; subst h; exact ok_qcancel hd hk _
              · cases h
            · cases h
          · split at h
            · rename_i hf
              subst hf
              split at h
              · rename_i hS
                obtain ⟨A, rfl, hd⟩ := decq_bind hS
                split at h
                · rename_i hk
                  injection h with h; subst h; exact ok_quntil hd hk _
                · cases h
              · cases h
            · split at h
              · rename_i hf
                subst hf
                split at h
                · rename_i hS
                  obtain ⟨A, rfl, hd⟩ := decq_bind hS
                  split at h
                  · rename_i hk
                    injection h with h; subst h; exact ok_qpush hd hk _ _ _ _
                  · cases h
                · cases h
              · cases h
end Go.Proofs.Ytbpbeogipgfjiaa
/- The document's queue, on the machine. -/
namespace Go.Proofs.Ytbpbeogipgfjiaa
open Go Go.RowKit
def c22 : FnC := ⟨(.seq (.reg [⟨(.some 1), (.box 3 (.t 0)), .none⟩, ⟨(.some 2), (.alloc [(.sl .true []), (.int .i64 0), (.int .i64 0)]), .none⟩, ⟨(.some 3), (.alloc [(.int .i64 0), (.int .i64 0), (.int .i64 0), (.int .i64 0), (.int .i64 0)]), .none⟩, ⟨(.some 4), (.mv (.c (.bool .false))), .none⟩]) (.seq (.seq (.reg [⟨(.some 6), (.faddr 0 (.t 1)), .none⟩, ⟨(.some 7), (.load .any .false 1 (.t 6)), .none⟩, ⟨(.some 8), (.len .false (.t 7)), .none⟩, ⟨(.some 9), (.bin .eql .false (.t 8) (.c (.int .i64 0))), .none⟩]) (.cond (.t 9) (.seq (.reg [⟨(.some 10), (.load .any .true 3 (.t 1)), .none⟩, ⟨(.some 11), (.build [(.int .i64 0), (.int .i64 0), (.int .i64 0), (.int .i64 0), (.int .i64 0)] []), .none⟩, ⟨.none, (.store .any .true 3 (.t 2) (.t 10)), .none⟩, ⟨.none, (.store .any .true 5 (.t 3) (.t 11)), .none⟩, ⟨(.some 4), (.mv (.c (.bool .false))), .none⟩]) .ret) .skip)) (.seq (.reg [⟨(.some 12), (.faddr 0 (.t 1)), .none⟩, ⟨(.some 13), (.load .any .false 1 (.t 12)), .none⟩, ⟨(.some 14), (.iaddr 5 (.t 13) (.c (.int .i64 0))), .none⟩, ⟨(.some 15), (.load .any .true 5 (.t 14)), .none⟩, ⟨(.some 5), (.alloc [(.int .i64 0), (.int .i64 0), (.int .i64 0), (.int .i64 0), (.int .i64 0)]), .none⟩, ⟨.none, (.store .any .true 5 (.t 5) (.t 15)), .none⟩]) (.seq (.reg [⟨(.some 16), (.faddr 0 (.t 1)), .none⟩, ⟨(.some 17), (.load (.root 1) .false 1 (.t 16)), .none⟩, ⟨(.some 18), (.call .imm 35 [(.t 17), (.c (.int .i64 0))]), .none⟩, ⟨(.some 19), (.faddr 0 (.t 5)), .none⟩, ⟨(.some 20), (.load (.root 5) .false 1 (.t 19)), .none⟩, ⟨(.some 21), (.faddr 2 (.t 1)), .none⟩, ⟨(.some 22), (.load (.root 1) .false 1 (.t 21)), .none⟩, ⟨(.some 23), (.build [(.sl .true []), (.int .i64 0), (.int .i64 0)] [(0, (1, (.t 18))), (1, (1, (.t 20))), (2, (1, (.t 22)))]), .none⟩, ⟨(.some 24), (.load (.root 5) .true 5 (.t 5)), .none⟩, ⟨.none, (.store (.root 2) .true 3 (.t 2) (.t 23)), .none⟩, ⟨.none, (.store (.root 3) .true 5 (.t 3) (.t 24)), .none⟩, ⟨(.some 4), (.mv (.c (.bool .true))), .none⟩]) .ret)))), [(.cell 2 .true 3), (.cell 3 .true 5), (.tmp 4)], 1, []⟩
def c34 : FnC := ⟨(.seq (.reg [⟨(.some 2), (.box 5 (.t 0)), .none⟩, ⟨(.some 3), (.box 5 (.t 1)), .none⟩, ⟨(.some 4), (.mv (.c (.bool .false))), .none⟩]) (.seq (.reg [⟨(.some 5), (.faddr 0 (.t 2)), .none⟩, ⟨(.some 6), (.load .any .false 1 (.t 5)), .none⟩, ⟨(.some 7), (.faddr 0 (.t 3)), .none⟩, ⟨(.some 8), (.load .any .false 1 (.t 7)), .none⟩, ⟨(.some 9), (.bin .lss .false (.t 6) (.t 8)), .none⟩, ⟨(.some 10), (.mv (.t 9)), .none⟩, ⟨(.some 11), (.faddr 0 (.t 2)), (.some (10, .false))⟩, ⟨(.some 12), (.load .any .false 1 (.t 11)), (.some (10, .false))⟩, ⟨(.some 13), (.faddr 0 (.t 3)), (.some (10, .false))⟩, ⟨(.some 14), (.load .any .false 1 (.t 13)), (.some (10, .false))⟩, ⟨(.some 15), (.bin .eql .false (.t 12) (.t 14)), (.some (10, .false))⟩, ⟨(.some 16), (.mv (.t 15)), (.some (10, .false))⟩, ⟨(.some 17), (.faddr 1 (.t 2)), (.some (16, .true))⟩, ⟨(.some 18), (.load .any .false 1 (.t 17)), (.some (16, .true))⟩, ⟨(.some 19), (.faddr 1 (.t 3)), (.some (16, .true))⟩, ⟨(.some 20), (.load .any .false 1 (.t 19)), (.some (16, .true))⟩, ⟨(.some 21), (.bin .lss .false (.t 18) (.t 20)), (.some (16, .true))⟩, ⟨(.some 22), (.pick (.t 16) (.t 21) (.c (.bool .false))), (.some (10, .false))⟩, ⟨(.some 23), (.pick (.t 10) (.c (.bool .true)) (.t 22)), .none⟩, ⟨(.some 4), (.mv (.t 23)), .none⟩]) .ret)), [(.tmp 4)], 2, []⟩
def c35 : FnC := ⟨(.seq (.reg [⟨(.some 4), (.mv (.c (.sl .true []))), .none⟩]) (.seq (.reg [⟨(.some 5), (.bsl [(.int .i64 0), (.int .i64 0), (.int .i64 0), (.int .i64 0), (.int .i64 0)] 0 []), .none⟩, ⟨(.some 6), (.mv (.t 0)), .none⟩, ⟨(.some 7), (.mv (.t 1)), .none⟩, ⟨(.some 8), (.slc .false 5 (.t 6) .none (.some (.t 7)) .none), .none⟩, ⟨(.some 9), (.app .any 30 5 40 (.t 5) (.t 8)), .none⟩, ⟨(.some 10), (.mv (.t 0)), .none⟩, ⟨(.some 11), (.mv (.t 1)), .none⟩, ⟨(.some 12), (.bin .add .false (.t 11) (.c (.int .i64 1))), .none⟩, ⟨(.some 13), (.slc .false 5 (.t 10) (.some (.t 12)) .none .none), .none⟩, ⟨(.some 14), (.app .any 30 5 40 (.t 9) (.t 13)), .none⟩, ⟨(.some 4), (.mv (.t 14)), .none⟩]) .ret)), [(.tmp 4)], 2, []⟩
set_option maxRecDepth 10000
set_option maxHeartbeats 1000000
set_option linter.unusedSimpArgs false
def qC (b : Bool) (S : Que) : List AV := [.sl b (S.l.map Evt.cv), .int .i64 S.clock, .int .i64 S.last]
def qA (b : Bool) (S : Que) : AV := .agg (qC b S)
theorem els_evt (l : List Evt) : elsOk 5 (l.map Evt.cv) = true := elsOk_map _ _ _ fun _ => rfl
section
variable {T : Nat → Option FnC} {ext : CallT}
theorem before_ev (hT : T 34 = some c34) (a b : Evt) : evC T ext 34 [.agg a.cv, .agg b.cv] none = some (.bool (decide (ltE a b)), none) := by
  refine evC_intro c34 hT rfl ?_
  unfold ltE
  by_cases h1 : a.at_ < b.at_
  · simp [c34, frz_free, frz_map, AV.frz, AV.frz0, kill_free, kill_map, AV.kill, AV.kill0, killE_at, killM_at, Slot.kill_v, Slot.kill_a, Slot.kill_mk, m_kill, m_kill0, e_rn, -Option.bind_some, ↓bind_some2, putE_at, setM_at, setO_at, stripE_at, stripM_at, Slot.strip_v, Slot.strip_a, Slot.strip_mk, An.strip, argE_at, noM_at, objE_at, m_init, m_put, m_put0, m_row, m_obj, m_strip, m_stripA, m_stripX, ↓seqK_nrm, ↓seqK_exit, ↓seqK_ret, ↓regK_at, ↓blkK_nrm, ↓blkK_exit, ↓blkK_ret, ↓condC_true, ↓condC_false, ↓guardC_bool, ↓guardC_tup, ↓r_skip, ↓r_seq, ↓r_reg, ↓r_cond, ↓r_block, ↓r_loop, ↓r_exit, ↓r_ret, ↓a_nrm, ↓a_exit, ↓a_ret, ↓o_nil, ↓o_cons, ↓s_plain, ↓s_guard, e_none, e_set, e_newp, e_newr, e_app, e_obj, e_mk, K.run, Opd.get, setRowC, AV.leaf, AV.whole, AV.cells, binC, mmC, eqC, natOf, loadC, loadI, Cl.okPtr, Cl.okMem, fillC, fin, finV, objAt, unname, resC, AV.free, AV.free0, AV.back, AV.backN, AV.isObj, AV.named, pack, lendAll, lend, objsOf, endC, AV.elems, Opd.an, zeroAn, elsOk_nil, elsOk_cons, elsOk_append, elsOk_map, elsOk_take, elsOk_drop, take_map_len, List.range_succ, List.range_zero, List.nil_append, List.cons_append, Evt.cv, h1]
  · by_cases h2 : a.at_ = b.at_
    · by_cases h3 : a.seq < b.seq <;> simp [c34, frz_free, frz_map, AV.frz, AV.frz0, kill_free, kill_map, AV.kill, AV.kill0, killE_at, killM_at, Slot.kill_v, Slot.kill_a, Slot.kill_mk, m_kill, m_kill0, e_rn, -Option.bind_some, ↓bind_some2, putE_at, setM_at, setO_at, stripE_at, stripM_at, Slot.strip_v, Slot.strip_a, Slot.strip_mk, An.strip, argE_at, noM_at, objE_at, m_init, m_put, m_put0, m_row, m_obj, m_strip, m_stripA, m_stripX, ↓seqK_nrm, ↓seqK_exit, ↓seqK_ret, ↓regK_at, ↓blkK_nrm, ↓blkK_exit, ↓blkK_ret, ↓condC_true, ↓condC_false, ↓guardC_bool, ↓guardC_tup, ↓r_skip, ↓r_seq, ↓r_reg, ↓r_cond, ↓r_block, ↓r_loop, ↓r_exit, ↓r_ret, ↓a_nrm, ↓a_exit, ↓a_ret, ↓o_nil, ↓o_cons, ↓s_plain, ↓s_guard, e_none, e_set, e_newp, e_newr, e_app, e_obj, e_mk, K.run, Opd.get, setRowC, AV.leaf, AV.whole, AV.cells, binC, mmC, eqC, natOf, loadC, loadI, Cl.okPtr, Cl.okMem, fillC, fin, finV, objAt, unname, resC, AV.free, AV.free0, AV.back, AV.backN, AV.isObj, AV.named, pack, lendAll, lend, objsOf, endC, AV.elems, Opd.an, zeroAn, elsOk_nil, elsOk_cons, elsOk_append, elsOk_map, elsOk_take, elsOk_drop, take_map_len, List.range_succ, List.range_zero, List.nil_append, List.cons_append, Evt.cv, h2, h3]
    · simp [c34, frz_free, frz_map, AV.frz, AV.frz0, kill_free, kill_map, AV.kill, AV.kill0, killE_at, killM_at, Slot.kill_v, Slot.kill_a, Slot.kill_mk, m_kill, m_kill0, e_rn, -Option.bind_some, ↓bind_some2, putE_at, setM_at, setO_at, stripE_at, stripM_at, Slot.strip_v, Slot.strip_a, Slot.strip_mk, An.strip, argE_at, noM_at, objE_at, m_init, m_put, m_put0, m_row, m_obj, m_strip, m_stripA, m_stripX, ↓seqK_nrm, ↓seqK_exit, ↓seqK_ret, ↓regK_at, ↓blkK_nrm, ↓blkK_exit, ↓blkK_ret, ↓condC_true, ↓condC_false, ↓guardC_bool, ↓guardC_tup, ↓r_skip, ↓r_seq, ↓r_reg, ↓r_cond, ↓r_block, ↓r_loop, ↓r_exit, ↓r_ret, ↓a_nrm, ↓a_exit, ↓a_ret, ↓o_nil, ↓o_cons, ↓s_plain, ↓s_guard, e_none, e_set, e_newp, e_newr, e_app, e_obj, e_mk, K.run, Opd.get, setRowC, AV.leaf, AV.whole, AV.cells, binC, mmC, eqC, natOf, loadC, loadI, Cl.okPtr, Cl.okMem, fillC, fin, finV, objAt, unname, resC, AV.free, AV.free0, AV.back, AV.backN, AV.isObj, AV.named, pack, lendAll, lend, objsOf, endC, AV.elems, Opd.an, zeroAn, elsOk_nil, elsOk_cons, elsOk_append, elsOk_map, elsOk_take, elsOk_drop, take_map_len, List.range_succ, List.range_zero, List.nil_append, List.cons_append, Evt.cv, h1, h2]
theorem qwithout_ev (hT : T 35 = some c35) (b : Bool) (l : List Evt) (i : Nat) (hi : i < l.length) (hlen : l.length ≤ 1000) : evC T ext 35 [.sl b (l.map Evt.cv), .int .i64 i] none = some (.sl false ((l.eraseIdx i).map Evt.cv), none) := by
  have hw : IntKind.i64.wrap ((i : Int) + 1) = ((i + 1 : Nat) : Int) := by rw [IntWalk.i64_in _ (by omega)]; rfl
  refine evC_intro c35 hT rfl ?_
  have h1 : i ≤ l.length := by omega
  have h2 : i + 1 ≤ l.length := by omega
  have h3 : min i l.length = i := by omega
  have h6 : roomOk 40 (i + (l.length - (i + 1))) = true := roomOk_iff.2 ⟨by omega, by omega⟩
  have h7 : roomOk 40 i = true := roomOk_iff.2 ⟨by omega, by omega⟩
  have h10 : (0 : Int) ≤ (i : Int) + 1 := by omega
  simp [c35, frz_free, frz_map, AV.frz, AV.frz0, kill_free, kill_map, AV.kill, AV.kill0, killE_at, killM_at, Slot.kill_v, Slot.kill_a, Slot.kill_mk, m_kill, m_kill0, e_rn, -Option.bind_some, ↓bind_some2, putE_at, setM_at, setO_at, stripE_at, stripM_at, Slot.strip_v, Slot.strip_a, Slot.strip_mk, An.strip, argE_at, noM_at, objE_at, m_init, m_put, m_put0, m_row, m_obj, m_strip, m_stripA, m_stripX, ↓seqK_nrm, ↓seqK_exit, ↓seqK_ret, ↓regK_at, ↓blkK_nrm, ↓blkK_exit, ↓blkK_ret, ↓condC_true, ↓condC_false, ↓guardC_bool, ↓guardC_tup, ↓r_skip, ↓r_seq, ↓r_reg, ↓r_cond, ↓r_block, ↓r_loop, ↓r_exit, ↓r_ret, ↓a_nrm, ↓a_exit, ↓a_ret, ↓o_nil, ↓o_cons, ↓s_plain, ↓s_guard, e_none, e_set, e_newp, e_newr, e_app, e_obj, e_mk, K.run, Opd.get, setRowC, AV.leaf, AV.whole, AV.cells, binC, mmC, eqC, natOf, loadC, loadI, Cl.okPtr, Cl.okMem, fillC, fin, finV, objAt, unname, resC, AV.free, AV.free0, AV.back, AV.backN, AV.isObj, AV.named, pack, lendAll, lend, objsOf, endC, AV.elems, Opd.an, zeroAn, elsOk_nil, elsOk_cons, elsOk_append, elsOk_map, elsOk_take, elsOk_drop, take_map_len, List.range_succ, List.range_zero, List.nil_append, List.cons_append, hw, h1, h2, h3, h6, h7, h10, els_evt]
  rw [List.eraseIdx_eq_take_drop_succ, List.map_append, List.map_take, List.map_drop]
theorem rpop_nil (hT : T 22 = some c22) (b : Bool) (S : Que) (h : S.l = []) : evC T ext 22 [qA b S] none = some (.tup [qA b S, .agg zeroE.cv, .bool false], none) := by
  refine evC_intro c22 hT rfl ?_
  simp [c22, frz_free, frz_map, AV.frz, AV.frz0, kill_free, kill_map, AV.kill, AV.kill0, killE_at, killM_at, Slot.kill_v, Slot.kill_a, Slot.kill_mk, m_kill, m_kill0, e_rn, -Option.bind_some, ↓bind_some2, putE_at, setM_at, setO_at, stripE_at, stripM_at, Slot.strip_v, Slot.strip_a, Slot.strip_mk, An.strip, argE_at, noM_at, objE_at, m_init, m_put, m_put0, m_row, m_obj, m_strip, m_stripA, m_stripX, ↓seqK_nrm, ↓seqK_exit, ↓seqK_ret, ↓regK_at, ↓blkK_nrm, ↓blkK_exit, ↓blkK_ret, ↓condC_true, ↓condC_false, ↓guardC_bool, ↓guardC_tup, ↓r_skip, ↓r_seq, ↓r_reg, ↓r_cond, ↓r_block, ↓r_loop, ↓r_exit, ↓r_ret, ↓a_nrm, ↓a_exit, ↓a_ret, ↓o_nil, ↓o_cons, ↓s_plain, ↓s_guard, e_none, e_set, e_newp, e_newr, e_app, e_obj, e_mk, K.run, Opd.get, setRowC, AV.leaf, AV.whole, AV.cells, binC, mmC, eqC, natOf, loadC, loadI, Cl.okPtr, Cl.okMem, fillC, fin, finV, objAt, unname, resC, AV.free, AV.free0, AV.back, AV.backN, AV.isObj, AV.named, pack, lendAll, lend, objsOf, endC, AV.elems, Opd.an, zeroAn, elsOk_nil, elsOk_cons, elsOk_append, elsOk_map, elsOk_take, elsOk_drop, take_map_len, List.range_succ, List.range_zero, List.nil_append, List.cons_append, qA, qC, h, Evt.cv, zeroE]
theorem rpop_cons (hT : T 22 = some c22) (h35 : T 35 = some c35) (b : Bool) (S : Que) (e : Evt) (l : List Evt) (h : S.l = e :: l) (hlen : S.l.length ≤ 1000) : evC T ext 22 [qA b S] none = some (.tup [qA false { S with l := l, clock := e.at_ }, .agg e.cv, .bool true], none) := by
  have hw := qwithout_ev (ext := ext) h35 b (e :: l) 0 (by simp) (by rw [h] at hlen; exact hlen)
  simp only [List.map_cons, List.eraseIdx_cons_zero, Int.cast_ofNat_Int, Evt.cv] at hw
  have h1 : ¬ ((l.length : Int) + 1 = 0) := by omega
  refine evC_intro c22 hT rfl ?_
  simp [c22, frz_free, frz_map, AV.frz, AV.frz0, kill_free, kill_map, AV.kill, AV.kill0, killE_at, killM_at, Slot.kill_v, Slot.kill_a, Slot.kill_mk, m_kill, m_kill0, e_rn, -Option.bind_some, ↓bind_some2, putE_at, setM_at, setO_at, stripE_at, stripM_at, Slot.strip_v, Slot.strip_a, Slot.strip_mk, An.strip, argE_at, noM_at, objE_at, m_init, m_put, m_put0, m_row, m_obj, m_strip, m_stripA, m_stripX, ↓seqK_nrm, ↓seqK_exit, ↓seqK_ret, ↓regK_at, ↓blkK_nrm, ↓blkK_exit, ↓blkK_ret, ↓condC_true, ↓condC_false, ↓guardC_bool, ↓guardC_tup, ↓r_skip, ↓r_seq, ↓r_reg, ↓r_cond, ↓r_block, ↓r_loop, ↓r_exit, ↓r_ret, ↓a_nrm, ↓a_exit, ↓a_ret, ↓o_nil, ↓o_cons, ↓s_plain, ↓s_guard, e_none, e_set, e_newp, e_newr, e_app, e_obj, e_mk, K.run, Opd.get, setRowC, AV.leaf, AV.whole, AV.cells, binC, mmC, eqC, natOf, loadC, loadI, Cl.okPtr, Cl.okMem, fillC, fin, finV, objAt, unname, resC, AV.free, AV.free0, AV.back, AV.backN, AV.isObj, AV.named, pack, lendAll, lend, objsOf, endC, AV.elems, Opd.an, zeroAn, elsOk_nil, elsOk_cons, elsOk_append, elsOk_map, elsOk_take, elsOk_drop, take_map_len, List.range_succ, List.range_zero, List.nil_append, List.cons_append, qA, qC, h, h1, Evt.cv, hw]
end
end Go.Proofs.Ytbpbeogipgfjiaa
/- The document's Cancel, on the machine. -/
namespace Go.Proofs.Ytbpbeogipgfjiaa
open Go Go.RowKit
def c23_1 : C := .seq (.seq (.reg [⟨(.some 7), (.mv (.t 6)), .none⟩, ⟨(.some 8), (.faddr 0 (.t 2)), .none⟩, ⟨(.some 9), (.load .any .false 1 (.t 8)), .none⟩, ⟨(.some 10), (.len .false (.t 9)), .none⟩, ⟨(.some 11), (.bin .lss .false (.t 7) (.t 10)), .none⟩]) (.cond (.t 11) .skip (.exit 0))) (.seq (.block 1 (.seq (.reg [⟨(.some 14), (.faddr 0 (.t 2)), .none⟩, ⟨(.some 15), (.load .any .false 1 (.t 14)), .none⟩, ⟨(.some 16), (.mv (.t 6)), .none⟩, ⟨(.some 17), (.iaddr 5 (.t 15) (.t 16)), .none⟩, ⟨(.some 18), (.faddr 1 (.t 17)), .none⟩, ⟨(.some 19), (.load .any .false 1 (.t 18)), .none⟩, ⟨(.some 20), (.mv (.t 1)), .none⟩, ⟨(.some 21), (.bin .eql .false (.t 19) (.t 20)), .none⟩]) (.cond (.t 21) (.seq (.reg [⟨(.some 22), (.faddr 0 (.t 2)), .none⟩, ⟨(.some 23), (.load .any .false 1 (.t 22)), .none⟩, ⟨(.some 24), (.mv (.t 6)), .none⟩, ⟨(.some 25), (.call .any 35 [(.t 23), (.t 24)]), .none⟩, ⟨(.some 26), (.faddr 0 (.t 2)), .none⟩, ⟨.none, (.store .any .false 1 (.t 26) (.t 25)), .none⟩]) (.seq (.reg [⟨(.some 27), (.load .any .true 3 (.t 2)), .none⟩, ⟨.none, (.store .any .true 3 (.t 4) (.t 27)), .none⟩, ⟨(.some 5), (.mv (.c (.bool .true))), .none⟩]) .ret)) .skip))) (.reg [⟨(.some 12), (.mv (.t 6)), .none⟩, ⟨(.some 13), (.bin .add .false (.t 12) (.c (.int .i64 1))), .none⟩, ⟨(.some 6), (.mv (.t 13)), .none⟩]))
def c23 : FnC := ⟨(.seq (.reg [⟨(.some 2), (.box 3 (.t 0)), .none⟩, ⟨(.some 4), (.alloc [(.sl .true []), (.int .i64 0), (.int .i64 0)]), .none⟩, ⟨(.some 5), (.mv (.c (.bool .false))), .none⟩]) (.seq (.seq (.reg [⟨(.some 6), (.mv (.c (.int .i64 0))), .none⟩]) (.block 0 (.loop c23_1))) (.seq (.reg [⟨(.some 28), (.load .any .true 3 (.t 2)), .none⟩, ⟨.none, (.store .any .true 3 (.t 4) (.t 28)), .none⟩, ⟨(.some 5), (.mv (.c (.bool .false))), .none⟩]) .ret))), [(.cell 4 .true 3), (.tmp 5)], 2, []⟩
set_option maxRecDepth 10000
set_option maxHeartbeats 1000000
set_option linter.unusedSimpArgs false
section
variable {T : Nat → Option FnC} {ext : CallT}
theorem rcancel_lp (h35 : T 35 = some c35) (b : Bool) (S : Que) (seq : Int) (hlen : S.l.length ≤ 1000) (r : RV) (m m4 : Nat) (k : Ex → MSt → Option RV)
    (hk : ∀ s : MSt, (∀ j (hj : j < S.l.length), S.l[j].seq ≠ seq) → (s.env 2).v = .ptr 2 m 0 → s.mem 2 m = some ((qC b S).map (⟨·, .no⟩)) → (s.env 4).v = .ptr 4 m4 0 → s.mem 4 m4 = some [⟨.sl true [], .ex⟩, ⟨.int .i64 0, .no⟩, ⟨.int .i64 0, .no⟩] → k (.exit 0) s = some r)
    (hr : ∀ (s : MSt) (i : Nat) (hi : i < S.l.length), S.l[i].seq = seq → (∀ j (hj : j < S.l.length), j < i → S.l[j].seq ≠ seq) → (s.env 4).v = .ptr 4 m4 0 → s.mem 4 m4 = some ((qC false { S with l := S.l.eraseIdx i }).map (⟨·, .no⟩)) → (s.env 5).v = .bool true → k .ret s = some r) :
    ∀ (n i : Nat), i + n = S.l.length → (∀ j (hj : j < S.l.length), j < i → S.l[j].seq ≠ seq) → ∀ s : MSt, (s.env 6).v = .int .i64 i → (s.env 1).v = .int .i64 seq → (s.env 2).v = .ptr 2 m 0 → s.mem 2 m = some ((qC b S).map (⟨·, .no⟩)) → (s.env 4).v = .ptr 4 m4 0 → s.mem 4 m4 = some [⟨.sl true [], .ex⟩, ⟨.int .i64 0, .no⟩, ⟨.int .i64 0, .no⟩] → evL T ext c23_1 s k = some r := by
  intro n
  induction n with
  | zero =>
    intro i hi hf s e6 e1 e2 em e4 em4
    obtain rfl : i = S.l.length := by omega
    have hK := hk
    refine evL_intro ?_
    simp only [qC, List.map_cons, List.map_nil] at em em4 hK
    simp [c23_1, frz_free, frz_map, AV.frz, AV.frz0, kill_free, kill_map, AV.kill, AV.kill0, killE_at, killM_at, Slot.kill_v, Slot.kill_a, Slot.kill_mk, m_kill, m_kill0, e_rn, -Option.bind_some, ↓bind_some2, putE_at, setM_at, setO_at, stripE_at, stripM_at, Slot.strip_v, Slot.strip_a, Slot.strip_mk, An.strip, argE_at, noM_at, objE_at, m_init, m_put, m_put0, m_row, m_obj, m_strip, m_stripA, m_stripX, ↓seqK_nrm, ↓seqK_exit, ↓seqK_ret, ↓regK_at, ↓blkK_nrm, ↓blkK_exit, ↓blkK_ret, ↓condC_true, ↓condC_false, ↓guardC_bool, ↓guardC_tup, ↓r_skip, ↓r_seq, ↓r_reg, ↓r_cond, ↓r_block, ↓r_loop, ↓r_exit, ↓r_ret, ↓a_nrm, ↓a_exit, ↓a_ret, ↓o_nil, ↓o_cons, ↓s_plain, ↓s_guard, e_none, e_set, e_newp, e_newr, e_app, e_obj, e_mk, K.run, Opd.get, setRowC, AV.leaf, AV.whole, AV.cells, binC, mmC, eqC, natOf, loadC, loadI, Cl.okPtr, Cl.okMem, fillC, fin, finV, objAt, unname, resC, AV.free, AV.free0, AV.back, AV.backN, AV.isObj, AV.named, pack, lendAll, lend, objsOf, endC, AV.elems, Opd.an, zeroAn, elsOk_nil, elsOk_cons, elsOk_append, elsOk_map, elsOk_take, elsOk_drop, take_map_len, List.range_succ, List.range_zero, List.nil_append, List.cons_append, e6, e2, em]
    refine hK _ (fun j hj => hf j hj hj) ?_ ?_ ?_ ?_ <;> simp [e2, em, e4, em4]
  | succ n ih =>
    intro i hi hf s e6 e1 e2 em e4 em4
    have hlt : i < S.l.length := by omega
    have hw : IntKind.i64.wrap ((i : Int) + 1) = ((i + 1 : Nat) : Int) := by rw [IntWalk.i64_in _ (by omega)]; rfl
    have hwo := qwithout_ev (ext := ext) h35 b S.l i hlt hlen
    have hR := fun s => hr s i hlt
    have em' := em
    have em4' := em4
    simp only [qC, List.map_cons, List.map_nil] at em em4 hR
    refine evL_intro ?_
    by_cases h : (S.l[i]).seq = seq
    · simp [c23_1, frz_free, frz_map, AV.frz, AV.frz0, kill_free, kill_map, AV.kill, AV.kill0, killE_at, killM_at, Slot.kill_v, Slot.kill_a, Slot.kill_mk, m_kill, m_kill0, e_rn, -Option.bind_some, ↓bind_some2, putE_at, setM_at, setO_at, stripE_at, stripM_at, Slot.strip_v, Slot.strip_a, Slot.strip_mk, An.strip, argE_at, noM_at, objE_at, m_init, m_put, m_put0, m_row, m_obj, m_strip, m_stripA, m_stripX, ↓seqK_nrm, ↓seqK_exit, ↓seqK_ret, ↓regK_at, ↓blkK_nrm, ↓blkK_exit, ↓blkK_ret, ↓condC_true, ↓condC_false, ↓guardC_bool, ↓guardC_tup, ↓r_skip, ↓r_seq, ↓r_reg, ↓r_cond, ↓r_block, ↓r_loop, ↓r_exit, ↓r_ret, ↓a_nrm, ↓a_exit, ↓a_ret, ↓o_nil, ↓o_cons, ↓s_plain, ↓s_guard, e_none, e_set, e_newp, e_newr, e_app, e_obj, e_mk, K.run, Opd.get, setRowC, AV.leaf, AV.whole, AV.cells, binC, mmC, eqC, natOf, loadC, loadI, Cl.okPtr, Cl.okMem, fillC, fin, finV, objAt, unname, resC, AV.free, AV.free0, AV.back, AV.backN, AV.isObj, AV.named, pack, lendAll, lend, objsOf, endC, AV.elems, Opd.an, zeroAn, elsOk_nil, elsOk_cons, elsOk_append, elsOk_map, elsOk_take, elsOk_drop, take_map_len, List.range_succ, List.range_zero, List.nil_append, List.cons_append, e6, e2, e1, em, e4, em4, hlt, Evt.cv, h, hwo]
      refine hR _ h hf ?_ ?_ ?_ <;> simp [e4, em4]
    · simp [c23_1, frz_free, frz_map, AV.frz, AV.frz0, kill_free, kill_map, AV.kill, AV.kill0, killE_at, killM_at, Slot.kill_v, Slot.kill_a, Slot.kill_mk, m_kill, m_kill0, e_rn, -Option.bind_some, ↓bind_some2, putE_at, setM_at, setO_at, stripE_at, stripM_at, Slot.strip_v, Slot.strip_a, Slot.strip_mk, An.strip, argE_at, noM_at, objE_at, m_init, m_put, m_put0, m_row, m_obj, m_strip, m_stripA, m_stripX, ↓seqK_nrm, ↓seqK_exit, ↓seqK_ret, ↓regK_at, ↓blkK_nrm, ↓blkK_exit, ↓blkK_ret, ↓condC_true, ↓condC_false, ↓guardC_bool, ↓guardC_tup, ↓r_skip, ↓r_seq, ↓r_reg, ↓r_cond, ↓r_block, ↓r_loop, ↓r_exit, ↓r_ret, ↓a_nrm, ↓a_exit, ↓a_ret, ↓o_nil, ↓o_cons, ↓s_plain, ↓s_guard, e_none, e_set, e_newp, e_newr, e_app, e_obj, e_mk, K.run, Opd.get, setRowC, AV.leaf, AV.whole, AV.cells, binC, mmC, eqC, natOf, loadC, loadI, Cl.okPtr, Cl.okMem, fillC, fin, finV, objAt, unname, resC, AV.free, AV.free0, AV.back, AV.backN, AV.isObj, AV.named, pack, lendAll, lend, objsOf, endC, AV.elems, Opd.an, zeroAn, elsOk_nil, elsOk_cons, elsOk_append, elsOk_map, elsOk_take, elsOk_drop, take_map_len, List.range_succ, List.range_zero, List.nil_append, List.cons_append, e6, e2, e1, em, hlt, Evt.cv, h, hw]
      refine ih (i + 1) (by omega) (fun j hj hji => ?_) _ ?_ ?_ ?_ ?_ ?_ ?_
      · by_cases hji' : j = i
        · subst hji'; exact h
        · exact hf j hj (by omega)
      all_goals simp [e6, e1, e2, em, e4, em4, qC, hw, Evt.cv]
theorem cancel_hit (S : Que) (seq : Int) (i : Nat) (hi : i < S.l.length) (h1 : S.l[i].seq = seq) (h2 : ∀ j (hj : j < S.l.length), j < i → S.l[j].seq ≠ seq) : S.cancel seq = ({ S with l := S.l.eraseIdx i }, true) := by
  have : S.l.findIdx? (fun e => e.seq == seq) = some i := List.findIdx?_eq_some_iff_getElem.2 ⟨hi, by simp [h1], fun j hj => by have := h2 j (by omega) hj; simpa using this⟩
  simp only [Que.cancel, this]
theorem cancel_miss (S : Que) (seq : Int) (h2 : ∀ j (hj : j < S.l.length), S.l[j].seq ≠ seq) : S.cancel seq = (S, false) := by
  have : S.l.findIdx? (fun e => e.seq == seq) = none := by
    rw [List.findIdx?_eq_none_iff]
    intro x hx
    obtain ⟨j, hj, rfl⟩ := List.getElem_of_mem hx
    simpa using h2 j hj
  simp only [Que.cancel, this]
theorem rcancel_ev (hT : T 23 = some c23) (h35 : T 35 = some c35) (b : Bool) (S : Que) (seq : Int) (hlen : S.l.length ≤ 1000) : evC T ext 23 [qA b S, .int .i64 seq] none = some (.tup [qA (if (S.cancel seq).2 then false else b) (S.cancel seq).1, .bool (S.cancel seq).2], none) := by
  refine evC_intro c23 hT rfl ?_
  simp [c23, frz_free, frz_map, AV.frz, AV.frz0, kill_free, kill_map, AV.kill, AV.kill0, killE_at, killM_at, Slot.kill_v, Slot.kill_a, Slot.kill_mk, m_kill, m_kill0, e_rn, -Option.bind_some, ↓bind_some2, putE_at, setM_at, setO_at, stripE_at, stripM_at, Slot.strip_v, Slot.strip_a, Slot.strip_mk, An.strip, argE_at, noM_at, objE_at, m_init, m_put, m_put0, m_row, m_obj, m_strip, m_stripA, m_stripX, ↓seqK_nrm, ↓seqK_exit, ↓seqK_ret, ↓regK_at, ↓blkK_nrm, ↓blkK_exit, ↓blkK_ret, ↓condC_true, ↓condC_false, ↓guardC_bool, ↓guardC_tup, ↓r_skip, ↓r_seq, ↓r_reg, ↓r_cond, ↓r_block, ↓r_loop, ↓r_exit, ↓r_ret, ↓a_nrm, ↓a_exit, ↓a_ret, ↓o_nil, ↓o_cons, ↓s_plain, ↓s_guard, e_none, e_set, e_newp, e_newr, e_app, e_obj, e_mk, K.run, Opd.get, setRowC, AV.leaf, AV.whole, AV.cells, binC, mmC, eqC, natOf, loadC, loadI, Cl.okPtr, Cl.okMem, fillC, fin, finV, objAt, unname, resC, AV.free, AV.free0, AV.back, AV.backN, AV.isObj, AV.named, pack, lendAll, lend, objsOf, endC, AV.elems, Opd.an, zeroAn, elsOk_nil, elsOk_cons, elsOk_append, elsOk_map, elsOk_take, elsOk_drop, take_map_len, List.range_succ, List.range_zero, List.nil_append, List.cons_append, qA, qC]
  refine rcancel_lp h35 b S seq hlen _ 1 1 _ (fun s hno e2 em e4 em4 => ?_) (fun s i hi h1 h2 e4 em4 e5 => ?_) S.l.length 0 (by simp) (fun j hj h => absurd h (by omega)) _ ?_ ?_ ?_ ?_ ?_ ?_
  · rw [cancel_miss S seq hno]
    simp only [qC, List.map_cons, List.map_nil] at em em4
    simp [frz_free, frz_map, AV.frz, AV.frz0, kill_free, kill_map, AV.kill, AV.kill0, killE_at, killM_at, Slot.kill_v, Slot.kill_a, Slot.kill_mk, m_kill, m_kill0, e_rn, -Option.bind_some, ↓bind_some2, putE_at, setM_at, setO_at, stripE_at, stripM_at, Slot.strip_v, Slot.strip_a, Slot.strip_mk, An.strip, argE_at, noM_at, objE_at, m_init, m_put, m_put0, m_row, m_obj, m_strip, m_stripA, m_stripX, ↓seqK_nrm, ↓seqK_exit, ↓seqK_ret, ↓regK_at, ↓blkK_nrm, ↓blkK_exit, ↓blkK_ret, ↓condC_true, ↓condC_false, ↓guardC_bool, ↓guardC_tup, ↓r_skip, ↓r_seq, ↓r_reg, ↓r_cond, ↓r_block, ↓r_loop, ↓r_exit, ↓r_ret, ↓a_nrm, ↓a_exit, ↓a_ret, ↓o_nil, ↓o_cons, ↓s_plain, ↓s_guard, e_none, e_set, e_newp, e_newr, e_app, e_obj, e_mk, K.run, Opd.get, setRowC, AV.leaf, AV.whole, AV.cells, binC, mmC, eqC, natOf, loadC, loadI, Cl.okPtr, Cl.okMem, fillC, fin, finV, objAt, unname, resC, AV.free, AV.free0, AV.back, AV.backN, AV.isObj, AV.named, pack, lendAll, lend, objsOf, endC, AV.elems, Opd.an, zeroAn, elsOk_nil, elsOk_cons, elsOk_append, elsOk_map, elsOk_take, elsOk_drop, take_map_len, List.range_succ, List.range_zero, List.nil_append, List.cons_append, e2, em, e4, em4]
  · rw [cancel_hit S seq i hi h1 h2]
    simp only [qC, List.map_cons, List.map_nil] at em4
    simp [frz_free, frz_map, AV.frz, AV.frz0, kill_free, kill_map, AV.kill, AV.kill0, killE_at, killM_at, Slot.kill_v, Slot.kill_a, Slot.kill_mk, m_kill, m_kill0, e_rn, -Option.bind_some, ↓bind_some2, putE_at, setM_at, setO_at, stripE_at, stripM_at, Slot.strip_v, Slot.strip_a, Slot.strip_mk, An.strip, argE_at, noM_at, objE_at, m_init, m_put, m_put0, m_row, m_obj, m_strip, m_stripA, m_stripX, ↓seqK_nrm, ↓seqK_exit, ↓seqK_ret, ↓regK_at, ↓blkK_nrm, ↓blkK_exit, ↓blkK_ret, ↓condC_true, ↓condC_false, ↓guardC_bool, ↓guardC_tup, ↓r_skip, ↓r_seq, ↓r_reg, ↓r_cond, ↓r_block, ↓r_loop, ↓r_exit, ↓r_ret, ↓a_nrm, ↓a_exit, ↓a_ret, ↓o_nil, ↓o_cons, ↓s_plain, ↓s_guard, e_none, e_set, e_newp, e_newr, e_app, e_obj, e_mk, K.run, Opd.get, setRowC, AV.leaf, AV.whole, AV.cells, binC, mmC, eqC, natOf, loadC, loadI, Cl.okPtr, Cl.okMem, fillC, fin, finV, objAt, unname, resC, AV.free, AV.free0, AV.back, AV.backN, AV.isObj, AV.named, pack, lendAll, lend, objsOf, endC, AV.elems, Opd.an, zeroAn, elsOk_nil, elsOk_cons, elsOk_append, elsOk_map, elsOk_take, elsOk_drop, take_map_len, List.range_succ, List.range_zero, List.nil_append, List.cons_append, e4, em4, e5]
  all_goals simp [frz_free, frz_map, AV.frz, AV.frz0, kill_free, kill_map, AV.kill, AV.kill0, killE_at, killM_at, Slot.kill_v, Slot.kill_a, Slot.kill_mk, m_kill, m_kill0, e_rn, -Option.bind_some, ↓bind_some2, putE_at, setM_at, setO_at, stripE_at, stripM_at, Slot.strip_v, Slot.strip_a, Slot.strip_mk, An.strip, argE_at, noM_at, objE_at, m_init, m_put, m_put0, m_row, m_obj, m_strip, m_stripA, m_stripX, ↓seqK_nrm, ↓seqK_exit, ↓seqK_ret, ↓regK_at, ↓blkK_nrm, ↓blkK_exit, ↓blkK_ret, ↓condC_true, ↓condC_false, ↓guardC_bool, ↓guardC_tup, ↓r_skip, ↓r_seq, ↓r_reg, ↓r_cond, ↓r_block, ↓r_loop, ↓r_exit, ↓r_ret, ↓a_nrm, ↓a_exit, ↓a_ret, ↓o_nil, ↓o_cons, ↓s_plain, ↓s_guard, e_none, e_set, e_newp, e_newr, e_app, e_obj, e_mk, K.run, Opd.get, setRowC, AV.leaf, AV.whole, AV.cells, binC, mmC, eqC, natOf, loadC, loadI, Cl.okPtr, Cl.okMem, fillC, fin, finV, objAt, unname, resC, AV.free, AV.free0, AV.back, AV.backN, AV.isObj, AV.named, pack, lendAll, lend, objsOf, endC, AV.elems, Opd.an, zeroAn, elsOk_nil, elsOk_cons, elsOk_append, elsOk_map, elsOk_take, elsOk_drop, take_map_len, List.range_succ, List.range_zero, List.nil_append, List.cons_append, qC, *]
end
end Go.Proofs.Ytbpbeogipgfjiaa
/- The document's Same, on the machine. -/
namespace Go.Proofs.Ytbpbeogipgfjiaa
open Go Go.RowKit
def c18_1 : C := .seq (.seq (.reg [⟨(.some 11), (.mv (.t 5)), .none⟩, ⟨(.some 12), (.mv (.t 0)), .none⟩, ⟨(.some 13), (.len .false (.t 12)), .none⟩, ⟨(.some 14), (.bin .lss .false (.t 11) (.t 13)), .none⟩]) (.cond (.t 14) .skip (.exit 0))) (.seq (.block 1 (.seq (.reg [⟨(.some 17), (.mv (.t 0)), .none⟩, ⟨(.some 18), (.mv (.t 5)), .none⟩, ⟨(.some 19), (.iaddr 5 (.t 17) (.t 18)), .none⟩, ⟨(.some 20), (.load .any .true 5 (.t 19)), .none⟩, ⟨(.some 21), (.mv (.t 1)), .none⟩, ⟨(.some 22), (.mv (.t 5)), .none⟩, ⟨(.some 23), (.iaddr 5 (.t 21) (.t 22)), .none⟩, ⟨(.some 24), (.load .any .true 5 (.t 23)), .none⟩, ⟨(.some 25), (.eqa .true [0, 0, 0, 0, 0] (.t 20) (.t 24)), .none⟩]) (.cond (.t 25) (.seq (.reg [⟨(.some 4), (.mv (.c (.bool .false))), .none⟩]) .ret) .skip))) (.reg [⟨(.some 15), (.mv (.t 5)), .none⟩, ⟨(.some 16), (.bin .add .false (.t 15) (.c (.int .i64 1))), .none⟩, ⟨(.some 5), (.mv (.t 16)), .none⟩]))
def c18 : FnC := ⟨(.seq (.reg [⟨(.some 4), (.mv (.c (.bool .false))), .none⟩]) (.seq (.seq (.reg [⟨(.some 6), (.mv (.t 0)), .none⟩, ⟨(.some 7), (.len .false (.t 6)), .none⟩, ⟨(.some 8), (.mv (.t 1)), .none⟩, ⟨(.some 9), (.len .false (.t 8)), .none⟩, ⟨(.some 10), (.bin .neq .false (.t 7) (.t 9)), .none⟩]) (.cond (.t 10) (.seq (.reg [⟨(.some 4), (.mv (.c (.bool .false))), .none⟩]) .ret) .skip)) (.seq (.seq (.reg [⟨(.some 5), (.mv (.c (.int .i64 0))), .none⟩]) (.block 0 (.loop c18_1))) (.seq (.reg [⟨(.some 4), (.mv (.c (.bool .true))), .none⟩]) .ret)))), [(.tmp 4)], 2, []⟩
set_option maxRecDepth 10000
set_option maxHeartbeats 1000000
set_option linter.unusedSimpArgs false
section
variable {T : Nat → Option FnC} {ext : CallT}
theorem evt_ext {p q : Evt} : p = q ↔ p.at_ = q.at_ ∧ p.seq = q.seq ∧ p.kind = q.kind ∧ p.node = q.node ∧ p.arg = q.arg := by
  obtain ⟨a, b, c, d, e⟩ := p
  obtain ⟨a', b', c', d', e'⟩ := q
  simp
theorem eqC_evt (p q : Evt) : eqC [0, 0, 0, 0, 0] p.cv q.cv = some (decide (p = q)) := by
  by_cases h : p = q
  · subst h; simp [eqC, Evt.cv]
  · simp only [h, decide_false]
    rw [evt_ext] at h
    by_cases h1 : p.at_ = q.at_ <;> by_cases h2 : p.seq = q.seq <;> by_cases h3 : p.kind = q.kind <;> by_cases h4 : p.node = q.node <;> by_cases h5 : p.arg = q.arg <;> simp_all [eqC, Evt.cv]
theorem rsame_lp (n1 n2 : Bool) (L M : List Evt) (hl : L.length = M.length) (hlen : L.length ≤ 9223372036854775807) (r : RV) (k : Ex → MSt → Option RV) (hk : L = M → ∀ s, k (.exit 0) s = some r) (hr : L ≠ M → ∀ s : MSt, (s.env 4).v = .bool false → k .ret s = some r) :
    ∀ (n i : Nat), i + n = L.length → L.take i = M.take i → ∀ s : MSt, (s.env 5).v = .int .i64 i → (s.env 0).v = .sl n1 (L.map Evt.cv) → (s.env 1).v = .sl n2 (M.map Evt.cv) → evL T ext c18_1 s k = some r := by
  intro n
  induction n with
  | zero =>
    intro i hi ht s e5 e0 e1
    obtain rfl : i = L.length := by omega
    refine evL_intro ?_
    simp [c18_1, frz_free, frz_map, AV.frz, AV.frz0, kill_free, kill_map, AV.kill, AV.kill0, killE_at, killM_at, Slot.kill_v, Slot.kill_a, Slot.kill_mk, m_kill, m_kill0, e_rn, -Option.bind_some, ↓bind_some2, putE_at, setM_at, setO_at, stripE_at, stripM_at, Slot.strip_v, Slot.strip_a, Slot.strip_mk, An.strip, argE_at, noM_at, objE_at, m_init, m_put, m_put0, m_row, m_obj, m_strip, m_stripA, m_stripX, ↓seqK_nrm, ↓seqK_exit, ↓seqK_ret, ↓regK_at, ↓blkK_nrm, ↓blkK_exit, ↓blkK_ret, ↓condC_true, ↓condC_false, ↓guardC_bool, ↓guardC_tup, ↓r_skip, ↓r_seq, ↓r_reg, ↓r_cond, ↓r_block, ↓r_loop, ↓r_exit, ↓r_ret, ↓a_nrm, ↓a_exit, ↓a_ret, ↓o_nil, ↓o_cons, ↓s_plain, ↓s_guard, e_none, e_set, e_newp, e_newr, e_app, e_obj, e_mk, K.run, Opd.get, setRowC, AV.leaf, AV.whole, AV.cells, binC, mmC, eqC, natOf, loadC, loadI, Cl.okPtr, Cl.okMem, fillC, fin, finV, objAt, unname, resC, AV.free, AV.free0, AV.back, AV.backN, AV.isObj, AV.named, pack, lendAll, lend, objsOf, endC, AV.elems, Opd.an, zeroAn, elsOk_nil, elsOk_cons, elsOk_append, elsOk_map, elsOk_take, elsOk_drop, take_map_len, List.range_succ, List.range_zero, List.nil_append, List.cons_append, e5, e0]
    refine hk ?_ _
    rw [List.take_length, hl, List.take_length] at ht
    exact ht
  | succ n ih =>
    intro i hi ht s e5 e0 e1
    have hlt : i < L.length := by omega
    have hlt' : i < M.length := by omega
    have hw : IntKind.i64.wrap ((i : Int) + 1) = ((i + 1 : Nat) : Int) := by rw [IntWalk.i64_in _ (by omega)]; rfl
    have hq := eqC_evt L[i] M[i]
    simp only [Evt.cv] at hq
    refine evL_intro ?_
    by_cases he : L[i] = M[i]
    · simp only [he, decide_true] at hq
      simp [c18_1, frz_free, frz_map, AV.frz, AV.frz0, kill_free, kill_map, AV.kill, AV.kill0, killE_at, killM_at, Slot.kill_v, Slot.kill_a, Slot.kill_mk, m_kill, m_kill0, e_rn, -Option.bind_some, ↓bind_some2, putE_at, setM_at, setO_at, stripE_at, stripM_at, Slot.strip_v, Slot.strip_a, Slot.strip_mk, An.strip, argE_at, noM_at, objE_at, m_init, m_put, m_put0, m_row, m_obj, m_strip, m_stripA, m_stripX, ↓seqK_nrm, ↓seqK_exit, ↓seqK_ret, ↓regK_at, ↓blkK_nrm, ↓blkK_exit, ↓blkK_ret, ↓condC_true, ↓condC_false, ↓guardC_bool, ↓guardC_tup, ↓r_skip, ↓r_seq, ↓r_reg, ↓r_cond, ↓r_block, ↓r_loop, ↓r_exit, ↓r_ret, ↓a_nrm, ↓a_exit, ↓a_ret, ↓o_nil, ↓o_cons, ↓s_plain, ↓s_guard, e_none, e_set, e_newp, e_newr, e_app, e_obj, e_mk, K.run, Opd.get, setRowC, AV.leaf, AV.whole, AV.cells, binC, mmC, eqC, natOf, loadC, loadI, Cl.okPtr, Cl.okMem, fillC, fin, finV, objAt, unname, resC, AV.free, AV.free0, AV.back, AV.backN, AV.isObj, AV.named, pack, lendAll, lend, objsOf, endC, AV.elems, Opd.an, zeroAn, elsOk_nil, elsOk_cons, elsOk_append, elsOk_map, elsOk_take, elsOk_drop, take_map_len, List.range_succ, List.range_zero, List.nil_append, List.cons_append, e5, e0, e1, hlt, hlt', Evt.cv, hq, he, hw]
      refine ih (i + 1) (by omega) ?_ _ ?_ ?_ ?_ <;> try (simp [e5, e0, e1, hw, Evt.cv]; done)
      rw [List.take_succ_eq_append_getElem hlt, List.take_succ_eq_append_getElem hlt', ht, he]
    · simp only [he, decide_false] at hq
      have hne : L ≠ M := fun h => he (by subst h; rfl)
      simp [c18_1, frz_free, frz_map, AV.frz, AV.frz0, kill_free, kill_map, AV.kill, AV.kill0, killE_at, killM_at, Slot.kill_v, Slot.kill_a, Slot.kill_mk, m_kill, m_kill0, e_rn, -Option.bind_some, ↓bind_some2, putE_at, setM_at, setO_at, stripE_at, stripM_at, Slot.strip_v, Slot.strip_a, Slot.strip_mk, An.strip, argE_at, noM_at, objE_at, m_init, m_put, m_put0, m_row, m_obj, m_strip, m_stripA, m_stripX, ↓seqK_nrm, ↓seqK_exit, ↓seqK_ret, ↓regK_at, ↓blkK_nrm, ↓blkK_exit, ↓blkK_ret, ↓condC_true, ↓condC_false, ↓guardC_bool, ↓guardC_tup, ↓r_skip, ↓r_seq, ↓r_reg, ↓r_cond, ↓r_block, ↓r_loop, ↓r_exit, ↓r_ret, ↓a_nrm, ↓a_exit, ↓a_ret, ↓o_nil, ↓o_cons, ↓s_plain, ↓s_guard, e_none, e_set, e_newp, e_newr, e_app, e_obj, e_mk, K.run, Opd.get, setRowC, AV.leaf, AV.whole, AV.cells, binC, mmC, eqC, natOf, loadC, loadI, Cl.okPtr, Cl.okMem, fillC, fin, finV, objAt, unname, resC, AV.free, AV.free0, AV.back, AV.backN, AV.isObj, AV.named, pack, lendAll, lend, objsOf, endC, AV.elems, Opd.an, zeroAn, elsOk_nil, elsOk_cons, elsOk_append, elsOk_map, elsOk_take, elsOk_drop, take_map_len, List.range_succ, List.range_zero, List.nil_append, List.cons_append, e5, e0, e1, hlt, hlt', Evt.cv, hq, he, hw]
      exact hr hne _ (by simp)
theorem rsame_ev (hT : T 18 = some c18) (n1 n2 : Bool) (L M : List Evt) (h1 : L.length ≤ 9223372036854775807) : evC T ext 18 [.sl n1 (L.map Evt.cv), .sl n2 (M.map Evt.cv)] none = some (.bool (decide (L = M)), none) := by
  refine evC_intro c18 hT rfl ?_
  by_cases hl : L.length = M.length
  · simp [c18, frz_free, frz_map, AV.frz, AV.frz0, kill_free, kill_map, AV.kill, AV.kill0, killE_at, killM_at, Slot.kill_v, Slot.kill_a, Slot.kill_mk, m_kill, m_kill0, e_rn, -Option.bind_some, ↓bind_some2, putE_at, setM_at, setO_at, stripE_at, stripM_at, Slot.strip_v, Slot.strip_a, Slot.strip_mk, An.strip, argE_at, noM_at, objE_at, m_init, m_put, m_put0, m_row, m_obj, m_strip, m_stripA, m_stripX, ↓seqK_nrm, ↓seqK_exit, ↓seqK_ret, ↓regK_at, ↓blkK_nrm, ↓blkK_exit, ↓blkK_ret, ↓condC_true, ↓condC_false, ↓guardC_bool, ↓guardC_tup, ↓r_skip, ↓r_seq, ↓r_reg, ↓r_cond, ↓r_block, ↓r_loop, ↓r_exit, ↓r_ret, ↓a_nrm, ↓a_exit, ↓a_ret, ↓o_nil, ↓o_cons, ↓s_plain, ↓s_guard, e_none, e_set, e_newp, e_newr, e_app, e_obj, e_mk, K.run, Opd.get, setRowC, AV.leaf, AV.whole, AV.cells, binC, mmC, eqC, natOf, loadC, loadI, Cl.okPtr, Cl.okMem, fillC, fin, finV, objAt, unname, resC, AV.free, AV.free0, AV.back, AV.backN, AV.isObj, AV.named, pack, lendAll, lend, objsOf, endC, AV.elems, Opd.an, zeroAn, elsOk_nil, elsOk_cons, elsOk_append, elsOk_map, elsOk_take, elsOk_drop, take_map_len, List.range_succ, List.range_zero, List.nil_append, List.cons_append, hl]
    refine rsame_lp n1 n2 L M hl h1 _ _ (fun h s => ?_) (fun h s h4 => ?_) L.length 0 (by simp) rfl _ ?_ ?_ ?_ <;> simp [frz_free, frz_map, AV.frz, AV.frz0, kill_free, kill_map, AV.kill, AV.kill0, killE_at, killM_at, Slot.kill_v, Slot.kill_a, Slot.kill_mk, m_kill, m_kill0, e_rn, -Option.bind_some, ↓bind_some2, putE_at, setM_at, setO_at, stripE_at, stripM_at, Slot.strip_v, Slot.strip_a, Slot.strip_mk, An.strip, argE_at, noM_at, objE_at, m_init, m_put, m_put0, m_row, m_obj, m_strip, m_stripA, m_stripX, ↓seqK_nrm, ↓seqK_exit, ↓seqK_ret, ↓regK_at, ↓blkK_nrm, ↓blkK_exit, ↓blkK_ret, ↓condC_true, ↓condC_false, ↓guardC_bool, ↓guardC_tup, ↓r_skip, ↓r_seq, ↓r_reg, ↓r_cond, ↓r_block, ↓r_loop, ↓r_exit, ↓r_ret, ↓a_nrm, ↓a_exit, ↓a_ret, ↓o_nil, ↓o_cons, ↓s_plain, ↓s_guard, e_none, e_set, e_newp, e_newr, e_app, e_obj, e_mk, K.run, Opd.get, setRowC, AV.leaf, AV.whole, AV.cells, binC, mmC, eqC, natOf, loadC, loadI, Cl.okPtr, Cl.okMem, fillC, fin, finV, objAt, unname, resC, AV.free, AV.free0, AV.back, AV.backN, AV.isObj, AV.named, pack, lendAll, lend, objsOf, endC, AV.elems, Opd.an, zeroAn, elsOk_nil, elsOk_cons, elsOk_append, elsOk_map, elsOk_take, elsOk_drop, take_map_len, List.range_succ, List.range_zero, List.nil_append, List.cons_append, *]
  · have hl' : ¬ (L.length : Int) = (M.length : Int) := by omega
    have hne : L ≠ M := fun h => hl (by rw [h])
    simp [c18, frz_free, frz_map, AV.frz, AV.frz0, kill_free, kill_map, AV.kill, AV.kill0, killE_at, killM_at, Slot.kill_v, Slot.kill_a, Slot.kill_mk, m_kill, m_kill0, e_rn, -Option.bind_some, ↓bind_some2, putE_at, setM_at, setO_at, stripE_at, stripM_at, Slot.strip_v, Slot.strip_a, Slot.strip_mk, An.strip, argE_at, noM_at, objE_at, m_init, m_put, m_put0, m_row, m_obj, m_strip, m_stripA, m_stripX, ↓seqK_nrm, ↓seqK_exit, ↓seqK_ret, ↓regK_at, ↓blkK_nrm, ↓blkK_exit, ↓blkK_ret, ↓condC_true, ↓condC_false, ↓guardC_bool, ↓guardC_tup, ↓r_skip, ↓r_seq, ↓r_reg, ↓r_cond, ↓r_block, ↓r_loop, ↓r_exit, ↓r_ret, ↓a_nrm, ↓a_exit, ↓a_ret, ↓o_nil, ↓o_cons, ↓s_plain, ↓s_guard, e_none, e_set, e_newp, e_newr, e_app, e_obj, e_mk, K.run, Opd.get, setRowC, AV.leaf, AV.whole, AV.cells, binC, mmC, eqC, natOf, loadC, loadI, Cl.okPtr, Cl.okMem, fillC, fin, finV, objAt, unname, resC, AV.free, AV.free0, AV.back, AV.backN, AV.isObj, AV.named, pack, lendAll, lend, objsOf, endC, AV.elems, Opd.an, zeroAn, elsOk_nil, elsOk_cons, elsOk_append, elsOk_map, elsOk_take, elsOk_drop, take_map_len, List.range_succ, List.range_zero, List.nil_append, List.cons_append, hl, hl', hne]
end
end Go.Proofs.Ytbpbeogipgfjiaa
/- The document's Until, on the machine. -/
namespace Go.Proofs.Ytbpbeogipgfjiaa
open Go Go.RowKit
def c24_1 : C := .seq (.seq (.reg [⟨(.some 7), (.faddr 0 (.t 2)), .none⟩, ⟨(.some 8), (.load .any .false 1 (.t 7)), .none⟩, ⟨(.some 9), (.len .false (.t 8)), .none⟩, ⟨(.some 10), (.bin .gtr .false (.t 9) (.c (.int .i64 0))), .none⟩, ⟨(.some 11), (.mv (.t 10)), .none⟩, ⟨(.some 12), (.faddr 0 (.t 2)), (.some (11, .true))⟩, ⟨(.some 13), (.load .any .false 1 (.t 12)), (.some (11, .true))⟩, ⟨(.some 14), (.iaddr 5 (.t 13) (.c (.int .i64 0))), (.some (11, .true))⟩, ⟨(.some 15), (.faddr 0 (.t 14)), (.some (11, .true))⟩, ⟨(.some 16), (.load .any .false 1 (.t 15)), (.some (11, .true))⟩, ⟨(.some 17), (.mv (.t 1)), (.some (11, .true))⟩, ⟨(.some 18), (.bin .leq .false (.t 16) (.t 17)), (.some (11, .true))⟩, ⟨(.some 19), (.pick (.t 11) (.t 18) (.c (.bool .false))), .none⟩]) (.cond (.t 19) .skip (.exit 0))) (.block 1 (.seq (.reg [⟨(.some 20), (.mv (.t 6)), .none⟩, ⟨(.some 21), (.faddr 0 (.t 2)), .none⟩, ⟨(.some 22), (.load .any .false 1 (.t 21)), .none⟩, ⟨(.some 23), (.iaddr 5 (.t 22) (.c (.int .i64 0))), .none⟩, ⟨(.some 24), (.load .any .true 5 (.t 23)), .none⟩, ⟨(.some 25), (.bsl [(.int .i64 0), (.int .i64 0), (.int .i64 0), (.int .i64 0), (.int .i64 0)] 1 [(0, (.t 24))]), .none⟩, ⟨(.some 26), (.app .any 30 5 40 (.t 20) (.t 25)), .none⟩, ⟨(.some 6), (.mv (.t 26)), .none⟩]) (.reg [⟨(.some 27), (.faddr 0 (.t 2)), .none⟩, ⟨(.some 28), (.load .any .false 1 (.t 27)), .none⟩, ⟨(.some 29), (.call .any 35 [(.t 28), (.c (.int .i64 0))]), .none⟩, ⟨(.some 30), (.faddr 0 (.t 2)), .none⟩, ⟨.none, (.store .any .false 1 (.t 30) (.t 29)), .none⟩])))
def c24 : FnC := ⟨(.seq (.reg [⟨(.some 2), (.box 3 (.t 0)), .none⟩, ⟨(.some 4), (.alloc [(.sl .true []), (.int .i64 0), (.int .i64 0)]), .none⟩, ⟨(.some 5), (.mv (.c (.sl .true []))), .none⟩]) (.seq (.reg [⟨(.some 6), (.mv (.c (.sl .true []))), .none⟩]) (.seq (.block 0 (.loop c24_1)) (.seq (.reg [⟨(.some 31), (.faddr 1 (.t 2)), .none⟩, ⟨(.some 32), (.load .any .false 1 (.t 31)), .none⟩, ⟨(.some 33), (.mv (.t 1)), .none⟩, ⟨(.some 34), (.mm .true (.t 32) (.t 33)), .none⟩, ⟨(.some 35), (.faddr 1 (.t 2)), .none⟩, ⟨.none, (.store .any .false 1 (.t 35) (.t 34)), .none⟩]) (.seq (.reg [⟨(.some 36), (.load .any .true 3 (.t 2)), .none⟩, ⟨(.some 37), (.mv (.t 6)), .none⟩, ⟨.none, (.store .any .true 3 (.t 4) (.t 36)), .none⟩, ⟨(.some 5), (.mv (.t 37)), .none⟩]) .ret))))), [(.cell 4 .true 3), (.tmp 5)], 2, []⟩
set_option maxRecDepth 10000
set_option maxHeartbeats 1000000
set_option linter.unusedSimpArgs false
section
variable {T : Nat → Option FnC} {ext : CallT}
structure KUnt (m m4 : Nat) (clock last t : Int) (s : MSt) : Prop where
  e1 : (s.env 1).v = .int .i64 t
  e2 : (s.env 2).v = .ptr 2 m 0
  e4 : (s.env 4).v = .ptr 4 m4 0
  m4 : s.mem 4 m4 = some [⟨.sl true [], .ex⟩, ⟨.int .i64 0, .no⟩, ⟨.int .i64 0, .no⟩]
theorem runtil_lp (h35 : T 35 = some c35) (clock last t : Int) (r : RV) (m m4 : Nat) (k : Ex → MSt → Option RV) (L0 : List Evt) (b0 : Bool)
    (hk : ∀ (s : MSt), KUnt m m4 clock last t s → s.mem 2 m = some ((qC (b0 && (L0.takeWhile (fun e => decide (e.at_ ≤ t))).isEmpty) ⟨clock, last, L0.dropWhile (fun e => decide (e.at_ ≤ t))⟩).map (⟨·, .no⟩)) → (s.env 6).v = .sl (L0.takeWhile (fun e => decide (e.at_ ≤ t))).isEmpty ((L0.takeWhile (fun e => decide (e.at_ ≤ t))).map Evt.cv) → k (.exit 0) s = some r) :
    ∀ (L acc : List Evt), L.length + acc.length ≤ 900 → acc ++ L.takeWhile (fun e => decide (e.at_ ≤ t)) = L0.takeWhile (fun e => decide (e.at_ ≤ t)) → L.dropWhile (fun e => decide (e.at_ ≤ t)) = L0.dropWhile (fun e => decide (e.at_ ≤ t)) → ∀ s : MSt, KUnt m m4 clock last t s → s.mem 2 m = some ((qC (b0 && acc.isEmpty) ⟨clock, last, L⟩).map (⟨·, .no⟩)) → (s.env 6).v = .sl acc.isEmpty (acc.map Evt.cv) → ((s.env 6).a = .ex ∨ (s.env 6).a = .own 26 30) → evL T ext c24_1 s k = some r := by
  intro L
  induction L with
  | nil =>
    intro acc hlen h1 h2 s hK em e6 a6
    obtain ⟨e1, e2, e4, em4⟩ := hK
    refine evL_intro ?_
    have hK := hk
    simp only [List.takeWhile_nil, List.append_nil] at h1
    simp only [List.dropWhile_nil] at h2
    rw [← h1, ← h2] at hK
    simp only [qC, List.map_cons, List.map_nil] at em hK
    simp [c24_1, frz_free, frz_map, AV.frz, AV.frz0, kill_free, kill_map, AV.kill, AV.kill0, killE_at, killM_at, Slot.kill_v, Slot.kill_a, Slot.kill_mk, m_kill, m_kill0, e_rn, -Option.bind_some, ↓bind_some2, putE_at, setM_at, setO_at, stripE_at, stripM_at, Slot.strip_v, Slot.strip_a, Slot.strip_mk, An.strip, argE_at, noM_at, objE_at, m_init, m_put, m_put0, m_row, m_obj, m_strip, m_stripA, m_stripX, ↓seqK_nrm, ↓seqK_exit, ↓seqK_ret, ↓regK_at, ↓blkK_nrm, ↓blkK_exit, ↓blkK_ret, ↓condC_true, ↓condC_false, ↓guardC_bool, ↓guardC_tup, ↓r_skip, ↓r_seq, ↓r_reg, ↓r_cond, ↓r_block, ↓r_loop, ↓r_exit, ↓r_ret, ↓a_nrm, ↓a_exit, ↓a_ret, ↓o_nil, ↓o_cons, ↓s_plain, ↓s_guard, e_none, e_set, e_newp, e_newr, e_app, e_obj, e_mk, K.run, Opd.get, setRowC, AV.leaf, AV.whole, AV.cells, binC, mmC, eqC, natOf, loadC, loadI, Cl.okPtr, Cl.okMem, fillC, fin, finV, objAt, unname, resC, AV.free, AV.free0, AV.back, AV.backN, AV.isObj, AV.named, pack, lendAll, lend, objsOf, endC, AV.elems, Opd.an, zeroAn, elsOk_nil, elsOk_cons, elsOk_append, elsOk_map, elsOk_take, elsOk_drop, take_map_len, List.range_succ, List.range_zero, List.nil_append, List.cons_append, e1, e2, em]
    refine hK _ ⟨?_, ?_, ?_, ?_⟩ ?_ ?_ <;> simp [*]
  | cons e L ih =>
    intro acc hlen h1 h2 s hK em e6 a6
    obtain ⟨e1, e2, e4, em4⟩ := hK
    simp only [List.length_cons] at hlen
    have hwo := qwithout_ev (ext := ext) h35 (b0 && acc.isEmpty) (e :: L) 0 (by simp) (by simp; omega)
    simp only [List.map_cons, List.eraseIdx_cons_zero, Int.cast_ofNat_Int, Evt.cv] at hwo
    have h0 : (0 : Int) < (L.length : Int) + 1 := by omega
    have h8 : roomOk 40 (acc.length + 1) = true := roomOk_iff.2 ⟨by omega, by omega⟩
    refine evL_intro ?_
    by_cases h : e.at_ ≤ t
    · simp only [List.takeWhile_cons, List.dropWhile_cons, h, decide_true, if_true] at h1 h2
      simp only [qC, List.map_cons, List.map_nil] at em
      rcases a6 with a6 | a6
      all_goals
        simp [c24_1, frz_free, frz_map, AV.frz, AV.frz0, kill_free, kill_map, AV.kill, AV.kill0, killE_at, killM_at, Slot.kill_v, Slot.kill_a, Slot.kill_mk, m_kill, m_kill0, e_rn, -Option.bind_some, ↓bind_some2, putE_at, setM_at, setO_at, stripE_at, stripM_at, Slot.strip_v, Slot.strip_a, Slot.strip_mk, An.strip, argE_at, noM_at, objE_at, m_init, m_put, m_put0, m_row, m_obj, m_strip, m_stripA, m_stripX, ↓seqK_nrm, ↓seqK_exit, ↓seqK_ret, ↓regK_at, ↓blkK_nrm, ↓blkK_exit, ↓blkK_ret, ↓condC_true, ↓condC_false, ↓guardC_bool, ↓guardC_tup, ↓r_skip, ↓r_seq, ↓r_reg, ↓r_cond, ↓r_block, ↓r_loop, ↓r_exit, ↓r_ret, ↓a_nrm, ↓a_exit, ↓a_ret, ↓o_nil, ↓o_cons, ↓s_plain, ↓s_guard, e_none, e_set, e_newp, e_newr, e_app, e_obj, e_mk, K.run, Opd.get, setRowC, AV.leaf, AV.whole, AV.cells, binC, mmC, eqC, natOf, loadC, loadI, Cl.okPtr, Cl.okMem, fillC, fin, finV, objAt, unname, resC, AV.free, AV.free0, AV.back, AV.backN, AV.isObj, AV.named, pack, lendAll, lend, objsOf, endC, AV.elems, Opd.an, zeroAn, elsOk_nil, elsOk_cons, elsOk_append, elsOk_map, elsOk_take, elsOk_drop, take_map_len, List.range_succ, List.range_zero, List.nil_append, List.cons_append, e1, e2, e4, em, em4, e6, a6, Evt.cv, h, h0, h8, hwo, els_evt]
        refine ih (acc ++ [e]) (by simp; omega) (by rw [← h1]; simp) h2 _ ⟨?_, ?_, ?_, ?_⟩ ?_ ?_ ?_ <;> simp [*, qC, Evt.cv, An.strip]
    · have hK := hk
      simp only [List.takeWhile_cons, List.dropWhile_cons, h, decide_false, Bool.false_eq_true, if_false, List.append_nil] at h1 h2
      rw [← h1, ← h2] at hK
      simp only [qC, List.map_cons, List.map_nil] at em hK
      simp [c24_1, frz_free, frz_map, AV.frz, AV.frz0, kill_free, kill_map, AV.kill, AV.kill0, killE_at, killM_at, Slot.kill_v, Slot.kill_a, Slot.kill_mk, m_kill, m_kill0, e_rn, -Option.bind_some, ↓bind_some2, putE_at, setM_at, setO_at, stripE_at, stripM_at, Slot.strip_v, Slot.strip_a, Slot.strip_mk, An.strip, argE_at, noM_at, objE_at, m_init, m_put, m_put0, m_row, m_obj, m_strip, m_stripA, m_stripX, ↓seqK_nrm, ↓seqK_exit, ↓seqK_ret, ↓regK_at, ↓blkK_nrm, ↓blkK_exit, ↓blkK_ret, ↓condC_true, ↓condC_false, ↓guardC_bool, ↓guardC_tup, ↓r_skip, ↓r_seq, ↓r_reg, ↓r_cond, ↓r_block, ↓r_loop, ↓r_exit, ↓r_ret, ↓a_nrm, ↓a_exit, ↓a_ret, ↓o_nil, ↓o_cons, ↓s_plain, ↓s_guard, e_none, e_set, e_newp, e_newr, e_app, e_obj, e_mk, K.run, Opd.get, setRowC, AV.leaf, AV.whole, AV.cells, binC, mmC, eqC, natOf, loadC, loadI, Cl.okPtr, Cl.okMem, fillC, fin, finV, objAt, unname, resC, AV.free, AV.free0, AV.back, AV.backN, AV.isObj, AV.named, pack, lendAll, lend, objsOf, endC, AV.elems, Opd.an, zeroAn, elsOk_nil, elsOk_cons, elsOk_append, elsOk_map, elsOk_take, elsOk_drop, take_map_len, List.range_succ, List.range_zero, List.nil_append, List.cons_append, e1, e2, em, Evt.cv, h, h0]
      refine hK _ ⟨?_, ?_, ?_, ?_⟩ ?_ ?_ <;> simp [*, Evt.cv]
theorem runtil_ev (hT : T 24 = some c24) (h35 : T 35 = some c35) (b : Bool) (S : Que) (t : Int) (hlen : S.l.length ≤ 900) : evC T ext 24 [qA b S, .int .i64 t] none = some (.tup [qA (b && (S.until t).2.isEmpty) (S.until t).1, .sl (S.until t).2.isEmpty ((S.until t).2.map Evt.cv)], none) := by
  refine evC_intro c24 hT rfl ?_
  simp [c24, frz_free, frz_map, AV.frz, AV.frz0, kill_free, kill_map, AV.kill, AV.kill0, killE_at, killM_at, Slot.kill_v, Slot.kill_a, Slot.kill_mk, m_kill, m_kill0, e_rn, -Option.bind_some, ↓bind_some2, putE_at, setM_at, setO_at, stripE_at, stripM_at, Slot.strip_v, Slot.strip_a, Slot.strip_mk, An.strip, argE_at, noM_at, objE_at, m_init, m_put, m_put0, m_row, m_obj, m_strip, m_stripA, m_stripX, ↓seqK_nrm, ↓seqK_exit, ↓seqK_ret, ↓regK_at, ↓blkK_nrm, ↓blkK_exit, ↓blkK_ret, ↓condC_true, ↓condC_false, ↓guardC_bool, ↓guardC_tup, ↓r_skip, ↓r_seq, ↓r_reg, ↓r_cond, ↓r_block, ↓r_loop, ↓r_exit, ↓r_ret, ↓a_nrm, ↓a_exit, ↓a_ret, ↓o_nil, ↓o_cons, ↓s_plain, ↓s_guard, e_none, e_set, e_newp, e_newr, e_app, e_obj, e_mk, K.run, Opd.get, setRowC, AV.leaf, AV.whole, AV.cells, binC, mmC, eqC, natOf, loadC, loadI, Cl.okPtr, Cl.okMem, fillC, fin, finV, objAt, unname, resC, AV.free, AV.free0, AV.back, AV.backN, AV.isObj, AV.named, pack, lendAll, lend, objsOf, endC, AV.elems, Opd.an, zeroAn, elsOk_nil, elsOk_cons, elsOk_append, elsOk_map, elsOk_take, elsOk_drop, take_map_len, List.range_succ, List.range_zero, List.nil_append, List.cons_append, qA, qC]
  refine runtil_lp h35 S.clock S.last t _ 1 1 _ S.l b (fun s hK em e6 => ?main) S.l [] (by simpa using hlen) (by simp) rfl _ ⟨?_, ?_, ?_, ?_⟩ ?_ ?_ ?_
  case main =>
    obtain ⟨e1, e2, e4, em4⟩ := hK
    simp only [Que.until]
    generalize S.l.takeWhile (fun e => decide (e.at_ ≤ t)) = R at *
    generalize S.l.dropWhile (fun e => decide (e.at_ ≤ t)) = R' at *
    simp only [qC, List.map_cons, List.map_nil] at em
    simp [frz_free, frz_map, AV.frz, AV.frz0, kill_free, kill_map, AV.kill, AV.kill0, killE_at, killM_at, Slot.kill_v, Slot.kill_a, Slot.kill_mk, m_kill, m_kill0, e_rn, -Option.bind_some, ↓bind_some2, putE_at, setM_at, setO_at, stripE_at, stripM_at, Slot.strip_v, Slot.strip_a, Slot.strip_mk, An.strip, argE_at, noM_at, objE_at, m_init, m_put, m_put0, m_row, m_obj, m_strip, m_stripA, m_stripX, ↓seqK_nrm, ↓seqK_exit, ↓seqK_ret, ↓regK_at, ↓blkK_nrm, ↓blkK_exit, ↓blkK_ret, ↓condC_true, ↓condC_false, ↓guardC_bool, ↓guardC_tup, ↓r_skip, ↓r_seq, ↓r_reg, ↓r_cond, ↓r_block, ↓r_loop, ↓r_exit, ↓r_ret, ↓a_nrm, ↓a_exit, ↓a_ret, ↓o_nil, ↓o_cons, ↓s_plain, ↓s_guard, e_none, e_set, e_newp, e_newr, e_app, e_obj, e_mk, K.run, Opd.get, setRowC, AV.leaf, AV.whole, AV.cells, binC, mmC, eqC, natOf, loadC, loadI, Cl.okPtr, Cl.okMem, fillC, fin, finV, objAt, unname, resC, AV.free, AV.free0, AV.back, AV.backN, AV.isObj, AV.named, pack, lendAll, lend, objsOf, endC, AV.elems, Opd.an, zeroAn, elsOk_nil, elsOk_cons, elsOk_append, elsOk_map, elsOk_take, elsOk_drop, take_map_len, List.range_succ, List.range_zero, List.nil_append, List.cons_append, e1, e2, e4, em, em4, e6]
  all_goals simp [frz_free, frz_map, AV.frz, AV.frz0, kill_free, kill_map, AV.kill, AV.kill0, killE_at, killM_at, Slot.kill_v, Slot.kill_a, Slot.kill_mk, m_kill, m_kill0, e_rn, -Option.bind_some, ↓bind_some2, putE_at, setM_at, setO_at, stripE_at, stripM_at, Slot.strip_v, Slot.strip_a, Slot.strip_mk, An.strip, argE_at, noM_at, objE_at, m_init, m_put, m_put0, m_row, m_obj, m_strip, m_stripA, m_stripX, ↓seqK_nrm, ↓seqK_exit, ↓seqK_ret, ↓regK_at, ↓blkK_nrm, ↓blkK_exit, ↓blkK_ret, ↓condC_true, ↓condC_false, ↓guardC_bool, ↓guardC_tup, ↓r_skip, ↓r_seq, ↓r_reg, ↓r_cond, ↓r_block, ↓r_loop, ↓r_exit, ↓r_ret, ↓a_nrm, ↓a_exit, ↓a_ret, ↓o_nil, ↓o_cons, ↓s_plain, ↓s_guard, e_none, e_set, e_newp, e_newr, e_app, e_obj, e_mk, K.run, Opd.get, setRowC, AV.leaf, AV.whole, AV.cells, binC, mmC, eqC, natOf, loadC, loadI, Cl.okPtr, Cl.okMem, fillC, fin, finV, objAt, unname, resC, AV.free, AV.free0, AV.back, AV.backN, AV.isObj, AV.named, pack, lendAll, lend, objsOf, endC, AV.elems, Opd.an, zeroAn, elsOk_nil, elsOk_cons, elsOk_append, elsOk_map, elsOk_take, elsOk_drop, take_map_len, List.range_succ, List.range_zero, List.nil_append, List.cons_append, qC, *]
end
end Go.Proofs.Ytbpbeogipgfjiaa
/- The document's Push, on the machine. -/
namespace Go.Proofs.Ytbpbeogipgfjiaa
open Go Go.RowKit
def c21_1 : C := .seq (.seq (.reg [⟨(.some 32), (.mv (.t 8)), .none⟩, ⟨(.some 33), (.bin .gtr .false (.t 32) (.c (.int .i64 0))), .none⟩, ⟨(.some 34), (.mv (.t 33)), .none⟩, ⟨(.some 35), (.mv (.t 7)), (.some (34, .true))⟩, ⟨(.some 36), (.mv (.t 8)), (.some (34, .true))⟩, ⟨(.some 37), (.iaddr 5 (.t 35) (.t 36)), (.some (34, .true))⟩, ⟨(.some 38), (.load .any .true 5 (.t 37)), (.some (34, .true))⟩, ⟨(.some 39), (.mv (.t 7)), (.some (34, .true))⟩, ⟨(.some 40), (.mv (.t 8)), (.some (34, .true))⟩, ⟨(.some 41), (.bin .sub .false (.t 40) (.c (.int .i64 1))), (.some (34, .true))⟩, ⟨(.some 42), (.iaddr 5 (.t 39) (.t 41)), (.some (34, .true))⟩, ⟨(.some 43), (.load .any .true 5 (.t 42)), (.some (34, .true))⟩, ⟨(.some 44), (.call .any 34 [(.t 38), (.t 43)]), (.some (34, .true))⟩, ⟨(.some 45), (.pick (.t 34) (.t 44) (.c (.bool .false))), .none⟩]) (.cond (.t 45) .skip (.exit 0))) (.seq (.block 1 (.reg [⟨(.some 48), (.mv (.t 7)), .none⟩, ⟨(.some 49), (.mv (.t 8)), .none⟩, ⟨(.some 50), (.mv (.t 7)), .none⟩, ⟨(.some 51), (.mv (.t 8)), .none⟩, ⟨(.some 52), (.bin .sub .false (.t 51) (.c (.int .i64 1))), .none⟩, ⟨(.some 53), (.mv (.t 7)), .none⟩, ⟨(.some 54), (.mv (.t 8)), .none⟩, ⟨(.some 55), (.bin .sub .false (.t 54) (.c (.int .i64 1))), .none⟩, ⟨(.some 56), (.iaddr 5 (.t 53) (.t 55)), .none⟩, ⟨(.some 57), (.load .any .true 5 (.t 56)), .none⟩, ⟨(.some 58), (.mv (.t 7)), .none⟩, ⟨(.some 59), (.mv (.t 8)), .none⟩, ⟨(.some 60), (.iaddr 5 (.t 58) (.t 59)), .none⟩, ⟨(.some 61), (.load .any .true 5 (.t 60)), .none⟩, ⟨(.some 62), (.iaddr 5 (.t 48) (.t 49)), .none⟩, ⟨.none, (.store .any .true 5 (.t 62) (.t 57)), .none⟩, ⟨(.some 63), (.iaddr 5 (.t 50) (.t 52)), .none⟩, ⟨.none, (.store .any .true 5 (.t 63) (.t 61)), .none⟩])) (.reg [⟨(.some 46), (.mv (.t 8)), .none⟩, ⟨(.some 47), (.bin .sub .false (.t 46) (.c (.int .i64 1))), .none⟩, ⟨(.some 8), (.mv (.t 47)), .none⟩]))
def c21 : FnC := ⟨(.seq (.reg [⟨(.some 2), (.box 3 (.t 0)), .none⟩, ⟨(.some 3), (.box 5 (.t 1)), .none⟩, ⟨(.some 4), (.alloc [(.sl .true []), (.int .i64 0), (.int .i64 0)]), .none⟩, ⟨(.some 5), (.mv (.c (.int .i64 0))), .none⟩, ⟨(.some 6), (.mv (.c (.int .i64 0))), .none⟩]) (.seq (.seq (.reg [⟨(.some 9), (.faddr 0 (.t 3)), .none⟩, ⟨(.some 10), (.load .any .false 1 (.t 9)), .none⟩, ⟨(.some 11), (.faddr 1 (.t 2)), .none⟩, ⟨(.some 12), (.load .any .false 1 (.t 11)), .none⟩, ⟨(.some 13), (.bin .lss .false (.t 10) (.t 12)), .none⟩]) (.cond (.t 13) (.seq (.reg [⟨(.some 14), (.load .any .true 3 (.t 2)), .none⟩, ⟨.none, (.store .any .true 3 (.t 4) (.t 14)), .none⟩, ⟨(.some 5), (.mv (.c (.int .i64 0))), .none⟩, ⟨(.some 6), (.mv (.c (.int .i64 7))), .none⟩]) .ret) .skip)) (.seq (.reg [⟨(.some 15), (.faddr 2 (.t 2)), .none⟩, ⟨(.some 16), (.load .any .false 1 (.t 15)), .none⟩, ⟨(.some 17), (.bin .add .false (.t 16) (.c (.int .i64 1))), .none⟩, ⟨(.some 18), (.faddr 2 (.t 2)), .none⟩, ⟨.none, (.store .any .false 1 (.t 18) (.t 17)), .none⟩]) (.seq (.reg [⟨(.some 19), (.faddr 2 (.t 2)), .none⟩, ⟨(.some 20), (.load .any .false 1 (.t 19)), .none⟩, ⟨(.some 21), (.faddr 1 (.t 3)), .none⟩, ⟨.none, (.store .any .false 1 (.t 21) (.t 20)), .none⟩]) (.seq (.reg [⟨(.some 22), (.bsl [(.int .i64 0), (.int .i64 0), (.int .i64 0), (.int .i64 0), (.int .i64 0)] 0 []), .none⟩, ⟨(.some 23), (.faddr 0 (.t 2)), .none⟩, ⟨(.some 24), (.load (.root 2) .false 1 (.t 23)), .none⟩, ⟨(.some 25), (.appf .any 30 5 40 (.t 22) (.t 24)), .none⟩, ⟨(.some 26), (.load (.root 3) .true 5 (.t 3)), .none⟩, ⟨(.some 27), (.bsl [(.int .i64 0), (.int .i64 0), (.int .i64 0), (.int .i64 0), (.int .i64 0)] 1 [(0, (.t 26))]), .none⟩, ⟨(.some 28), (.appm .any 30 5 40 (.t 25) (.t 27)), .none⟩, ⟨(.some 7), (.mv (.t 28)), .none⟩]) (.seq (.seq (.reg [⟨(.some 29), (.mv (.t 7)), .none⟩, ⟨(.some 30), (.len .false (.t 29)), .none⟩, ⟨(.some 31), (.bin .sub .false (.t 30) (.c (.int .i64 1))), .none⟩, ⟨(.some 8), (.mv (.t 31)), .none⟩]) (.block 0 (.loop c21_1))) (.seq (.reg [⟨(.some 64), (.mv (.t 7)), .none⟩, ⟨(.some 65), (.faddr 0 (.t 2)), .none⟩, ⟨.none, (.store .any .false 1 (.t 65) (.t 64)), .none⟩]) (.seq (.reg [⟨(.some 66), (.load (.root 2) .true 3 (.t 2)), .none⟩, ⟨(.some 67), (.faddr 1 (.t 3)), .none⟩, ⟨(.some 68), (.load (.root 3) .false 1 (.t 67)), .none⟩, ⟨.none, (.store (.root 4) .true 3 (.t 4) (.t 66)), .none⟩, ⟨(.some 5), (.mv (.t 68)), .none⟩, ⟨(.some 6), (.mv (.c (.int .i64 0))), .none⟩]) .ret)))))))), [(.cell 4 .true 3), (.tmp 5), (.tmp 6)], 2, [50, 57]⟩
set_option maxRecDepth 10000
set_option maxHeartbeats 1000000
set_option linter.unusedSimpArgs false
/-- an event that moves to the front of those that it is before -/
def downE (e : Evt) : List Evt → List Evt → List Evt
  | [], post => e :: post
  | x :: r, post => if ltE e x then downE e r (x :: post) else r.reverse ++ x :: e :: post
section
variable {T : Nat → Option FnC} {ext : CallT}
structure KPush (m : Nat) (len cap : Nat) (s : MSt) : Prop where
  e2 : (s.env 2).v = .ptr 2 m 0
  e3 : (s.env 3).v = .ptr 3 m 0
  e4 : (s.env 4).v = .ptr 4 m 0
theorem rpush_lp (h34 : T 34 = some c34) (r : RV) (m n : Nat) (k : Ex → MSt → Option RV) (len : Nat) (hlen : len ≤ 1000) (e : Evt) (row2 row3 row4 : List Slot)
    (L : List Evt) (hk : ∀ (s : MSt), KPush m len len s → s.mem 2 m = some row2 → s.mem 3 m = some row3 → s.mem 4 m = some row4 → (s.env 7).v = .ref 28 n 5 0 len len → s.mem 28 n = some (rowOf (L.map Evt.cv)) → k (.exit 0) s = some r) :
    ∀ (pre post : List Evt), pre.length + post.length + 1 = len → downE e pre post = L → ∀ s : MSt, KPush m len len s → s.mem 2 m = some row2 → s.mem 3 m = some row3 → s.mem 4 m = some row4 → (s.env 7).v = .ref 28 n 5 0 len len → (s.env 8).v = .int .i64 pre.length → s.mem 28 n = some (rowOf ((pre.reverse ++ e :: post).map Evt.cv)) → evL T ext c21_1 s k = some r := by
  intro pre
  induction pre with
  | nil =>
    intro post hl hL s hK em2 em3 em4 e7 e8 em
    obtain ⟨e2, e3, e4⟩ := hK
    refine evL_intro ?_
    simp only [downE] at hL
    simp only [List.reverse_nil, List.nil_append, hL] at em
    simp [c21_1, frz_free, frz_map, AV.frz, AV.frz0, kill_free, kill_map, AV.kill, AV.kill0, killE_at, killM_at, Slot.kill_v, Slot.kill_a, Slot.kill_mk, m_kill, m_kill0, e_rn, -Option.bind_some, ↓bind_some2, putE_at, setM_at, setO_at, stripE_at, stripM_at, Slot.strip_v, Slot.strip_a, Slot.strip_mk, An.strip, argE_at, noM_at, objE_at, m_init, m_put, m_put0, m_row, m_obj, m_strip, m_stripA, m_stripX, ↓seqK_nrm, ↓seqK_exit, ↓seqK_ret, ↓regK_at, ↓blkK_nrm, ↓blkK_exit, ↓blkK_ret, ↓condC_true, ↓condC_false, ↓guardC_bool, ↓guardC_tup, ↓r_skip, ↓r_seq, ↓r_reg, ↓r_cond, ↓r_block, ↓r_loop, ↓r_exit, ↓r_ret, ↓a_nrm, ↓a_exit, ↓a_ret, ↓o_nil, ↓o_cons, ↓s_plain, ↓s_guard, e_none, e_set, e_newp, e_newr, e_app, e_obj, e_mk, K.run, Opd.get, setRowC, AV.leaf, AV.whole, AV.cells, binC, mmC, eqC, natOf, loadC, loadI, Cl.okPtr, Cl.okMem, fillC, fin, finV, objAt, unname, resC, AV.free, AV.free0, AV.back, AV.backN, AV.isObj, AV.named, pack, lendAll, lend, objsOf, endC, AV.elems, Opd.an, zeroAn, elsOk_nil, elsOk_cons, elsOk_append, elsOk_map, elsOk_take, elsOk_drop, take_map_len, List.range_succ, List.range_zero, List.nil_append, List.cons_append, e7, e8]
    refine hk _ ⟨?_, ?_, ?_⟩ ?_ ?_ ?_ ?_ ?_ <;> simp [*]
  | cons x pre ih =>
    intro post hl hL s hK em2 em3 em4 e7 e8 em
    obtain ⟨e2, e3, e4⟩ := hK
    simp only [List.length_cons] at hl e8
    have hw : IntKind.i64.wrap (pre.length : Int) = pre.length := IntWalk.i64_in _ (by omega)
    have hgt : (0 : Int) < (pre.length : Int) + 1 := by omega
    have hge : (0 : Int) ≤ (pre.length : Int) + 1 := by omega
    have hb := before_ev (ext := ext) h34 e x
    have hels : ∀ l : List Evt, elsOk 5 (l.map Evt.cv) = true := els_evt
    have g1 : (((x :: pre).reverse ++ e :: post).map Evt.cv)[pre.length + 1]? = some e.cv := by
      rw [List.getElem?_map, List.getElem?_append_right (by simp)]; simp
    have g2 : (((x :: pre).reverse ++ e :: post).map Evt.cv)[pre.length]? = some x.cv := by
      rw [List.getElem?_map, List.getElem?_append_left (by simp), List.reverse_cons, List.getElem?_append_right (by simp)]; simp
    have l1 := rowOf_load (hels _) g1
    have l2 := rowOf_load (hels _) g2
    have hlt : pre.length + 1 < len := by omega
    have hlt2 : pre.length < len := by omega
    refine evL_intro ?_
    by_cases h : ltE e x
    · have st1 : ((((x :: pre).reverse ++ e :: post).map Evt.cv).set (pre.length + 1) x.cv).set pre.length e.cv = (pre.reverse ++ e :: x :: post).map Evt.cv := by
        rw [← List.map_set, ← List.map_set]
        congr 1
        simp only [List.reverse_cons, List.append_assoc, List.singleton_append]
        rw [List.set_append_right _ _ (by simp), List.set_append_right _ _ (by simp)]
        simp
      have s1 := rowOf_store (hels ((x :: pre).reverse ++ e :: post)) (k := pre.length + 1) (c := x.cv) (by simp) rfl .no
      have s2 := rowOf_store (sz := 5) (l := (((x :: pre).reverse ++ e :: post).map Evt.cv).set (pre.length + 1) x.cv) (by rw [← List.map_set]; exact hels _) (k := pre.length) (c := e.cv) (by simp) rfl .no
      rw [st1] at s2
      generalize hR : rowOf (((x :: pre).reverse ++ e :: post).map Evt.cv) = R0 at em l1 l2 s1
      generalize hR1 : rowOf ((((x :: pre).reverse ++ e :: post).map Evt.cv).set (pre.length + 1) x.cv) = R1 at s1 s2
      simp only [downE, h, if_true] at hL
      simp only [Evt.cv] at l1 l2 s1 s2 hb
      simp [c21_1, frz_free, frz_map, AV.frz, AV.frz0, kill_free, kill_map, AV.kill, AV.kill0, killE_at, killM_at, Slot.kill_v, Slot.kill_a, Slot.kill_mk, m_kill, m_kill0, e_rn, -Option.bind_some, ↓bind_some2, putE_at, setM_at, setO_at, stripE_at, stripM_at, Slot.strip_v, Slot.strip_a, Slot.strip_mk, An.strip, argE_at, noM_at, objE_at, m_init, m_put, m_put0, m_row, m_obj, m_strip, m_stripA, m_stripX, ↓seqK_nrm, ↓seqK_exit, ↓seqK_ret, ↓regK_at, ↓blkK_nrm, ↓blkK_exit, ↓blkK_ret, ↓condC_true, ↓condC_false, ↓guardC_bool, ↓guardC_tup, ↓r_skip, ↓r_seq, ↓r_reg, ↓r_cond, ↓r_block, ↓r_loop, ↓r_exit, ↓r_ret, ↓a_nrm, ↓a_exit, ↓a_ret, ↓o_nil, ↓o_cons, ↓s_plain, ↓s_guard, e_none, e_set, e_newp, e_newr, e_app, e_obj, e_mk, K.run, Opd.get, setRowC_f, setRowC_t, AV.leaf, AV.whole, AV.cells, binC, mmC, eqC, natOf, loadC_f, loadC_t, loadI, Cl.okPtr, Cl.okMem, fillC, fin, finV, objAt, unname, resC, AV.free, AV.free0, AV.back, AV.backN, AV.isObj, AV.named, pack, lendAll, lend, objsOf, endC, AV.elems, Opd.an, zeroAn, elsOk_nil, elsOk_cons, elsOk_append, elsOk_map, elsOk_take, elsOk_drop, take_map_len, List.range_succ, List.range_zero, List.nil_append, List.cons_append, e7, e8, hgt, hge, hlt, hlt2, hw, em, l1, l2, s1, s2, hb, h]
      refine ih (x :: post) (by simp; omega) hL _ ⟨?_, ?_, ?_⟩ ?_ ?_ ?_ ?_ ?_ ?_ <;> simp [*]
    · simp only [downE, h, if_false] at hL
      have hL' : (x :: pre).reverse ++ e :: post = L := by rw [← hL]; simp
      rw [hL'] at em l1 l2
      generalize hR : rowOf (L.map Evt.cv) = R0 at em l1 l2 hk
      simp only [Evt.cv] at l1 l2 hb
      simp [c21_1, frz_free, frz_map, AV.frz, AV.frz0, kill_free, kill_map, AV.kill, AV.kill0, killE_at, killM_at, Slot.kill_v, Slot.kill_a, Slot.kill_mk, m_kill, m_kill0, e_rn, -Option.bind_some, ↓bind_some2, putE_at, setM_at, setO_at, stripE_at, stripM_at, Slot.strip_v, Slot.strip_a, Slot.strip_mk, An.strip, argE_at, noM_at, objE_at, m_init, m_put, m_put0, m_row, m_obj, m_strip, m_stripA, m_stripX, ↓seqK_nrm, ↓seqK_exit, ↓seqK_ret, ↓regK_at, ↓blkK_nrm, ↓blkK_exit, ↓blkK_ret, ↓condC_true, ↓condC_false, ↓guardC_bool, ↓guardC_tup, ↓r_skip, ↓r_seq, ↓r_reg, ↓r_cond, ↓r_block, ↓r_loop, ↓r_exit, ↓r_ret, ↓a_nrm, ↓a_exit, ↓a_ret, ↓o_nil, ↓o_cons, ↓s_plain, ↓s_guard, e_none, e_set, e_newp, e_newr, e_app, e_obj, e_mk, K.run, Opd.get, setRowC_f, setRowC_t, AV.leaf, AV.whole, AV.cells, binC, mmC, eqC, natOf, loadC_f, loadC_t, loadI, Cl.okPtr, Cl.okMem, fillC, fin, finV, objAt, unname, resC, AV.free, AV.free0, AV.back, AV.backN, AV.isObj, AV.named, pack, lendAll, lend, objsOf, endC, AV.elems, Opd.an, zeroAn, elsOk_nil, elsOk_cons, elsOk_append, elsOk_map, elsOk_take, elsOk_drop, take_map_len, List.range_succ, List.range_zero, List.nil_append, List.cons_append, e7, e8, hgt, hge, hlt, hlt2, hw, em, l1, l2, hb, h]
      refine hk _ ⟨?_, ?_, ?_⟩ ?_ ?_ ?_ ?_ ?_ <;> simp [*]
theorem rpush_low (hT : T 21 = some c21) (b : Bool) (S : Que) (x : Evt) (h : x.at_ < S.clock) : evC T ext 21 [qA b S, .agg x.cv] none = some (.tup [qA b S, .int .i64 0, .int .i64 7], none) := by
  refine evC_intro c21 hT rfl ?_
  simp [c21, frz_free, frz_map, AV.frz, AV.frz0, kill_free, kill_map, AV.kill, AV.kill0, killE_at, killM_at, Slot.kill_v, Slot.kill_a, Slot.kill_mk, m_kill, m_kill0, e_rn, -Option.bind_some, ↓bind_some2, putE_at, setM_at, setO_at, stripE_at, stripM_at, Slot.strip_v, Slot.strip_a, Slot.strip_mk, An.strip, argE_at, noM_at, objE_at, m_init, m_put, m_put0, m_row, m_obj, m_strip, m_stripA, m_stripX, ↓seqK_nrm, ↓seqK_exit, ↓seqK_ret, ↓regK_at, ↓blkK_nrm, ↓blkK_exit, ↓blkK_ret, ↓condC_true, ↓condC_false, ↓guardC_bool, ↓guardC_tup, ↓r_skip, ↓r_seq, ↓r_reg, ↓r_cond, ↓r_block, ↓r_loop, ↓r_exit, ↓r_ret, ↓a_nrm, ↓a_exit, ↓a_ret, ↓o_nil, ↓o_cons, ↓s_plain, ↓s_guard, e_none, e_set, e_newp, e_newr, e_app, e_obj, e_mk, K.run, Opd.get, setRowC, AV.leaf, AV.whole, AV.cells, binC, mmC, eqC, natOf, loadC, loadI, Cl.okPtr, Cl.okMem, fillC, fin, finV, objAt, unname, resC, AV.free, AV.free0, AV.back, AV.backN, AV.isObj, AV.named, pack, lendAll, lend, objsOf, endC, AV.elems, Opd.an, zeroAn, elsOk_nil, elsOk_cons, elsOk_append, elsOk_map, elsOk_take, elsOk_drop, take_map_len, List.range_succ, List.range_zero, List.nil_append, List.cons_append, qA, qC, Evt.cv, h]
theorem dw_nil {α : Type} {p : α → Bool} : ∀ {l : List α}, (∀ y ∈ l, p y = true) → l.dropWhile p = []
  | [], _ => rfl
  | x :: r, h => by rw [List.dropWhile_cons, if_pos (h x List.mem_cons_self)]; exact dw_nil fun y hy => h y (List.mem_cons_of_mem _ hy)
theorem downE_eq (e : Evt) : ∀ pre post : List Evt, downE e pre post = (pre.dropWhile (fun x => decide (ltE e x))).reverse ++ e :: ((pre.takeWhile (fun x => decide (ltE e x))).reverse ++ post)
  | [], post => rfl
  | x :: r, post => by
    unfold downE
    by_cases h : ltE e x
    · simp [h, downE_eq e r]
    · simp [h]
theorem downE_ins (e : Evt) : ∀ l : List Evt, l.Pairwise ltE → (∀ x ∈ l, ltE x e ∨ ltE e x) → downE e l.reverse [] = insE e l := by
  intro l hl ht
  rw [downE_eq]
  unfold insE
  simp only [cmp_ltE]
  have asym : ∀ {x}, ltE x e → ¬ ltE e x := fun h h' => by unfold ltE at h h'; omega
  have key : (l.reverse.dropWhile (fun x => decide (ltE e x))).reverse = l.takeWhile (fun x => decide (ltE x e)) ∧ (l.reverse.takeWhile (fun x => decide (ltE e x))).reverse = l.dropWhile (fun x => decide (ltE x e)) := by
    induction l with
    | nil => simp
    | cons x r ih =>
      obtain ⟨h1, h2⟩ := List.pairwise_cons.1 hl
      obtain ⟨i1, i2⟩ := ih h2 fun y hy => ht y (List.mem_cons_of_mem _ hy)
      rcases ht x List.mem_cons_self with h | h
      · have hn := asym h
        rw [List.reverse_cons, List.dropWhile_append, List.takeWhile_append]
        simp only [List.takeWhile_cons, List.dropWhile_cons, h, hn, decide_true, decide_false, if_true, Bool.false_eq_true, if_false]
        constructor
        · split
          · rename_i he
            have he' : r.reverse.dropWhile (fun x => decide (ltE e x)) = [] := by simpa using he
            rw [← i1, he']
            simp
          · rw [List.reverse_append, i1]
            simp
        · rw [← i2]
          split
          · rename_i he
            have : r.reverse.takeWhile (fun x => decide (ltE e x)) = r.reverse := by
              have h3 := List.takeWhile_append_dropWhile (p := fun x => decide (ltE e x)) (l := r.reverse)
              have h4 := congrArg List.length h3
              rw [List.length_append] at h4
              have h5 : r.reverse.dropWhile (fun x => decide (ltE e x)) = [] := List.eq_nil_of_length_eq_zero (by omega)
              rw [h5, List.append_nil] at h3
              exact h3
            rw [this]
            simp
          · rfl
      · have hall : ∀ y ∈ (x :: r).reverse, decide (ltE e y) = true := fun y hy => by
          rcases List.mem_cons.1 (List.mem_reverse.1 hy) with rfl | hy
          · simpa using h
          · simpa using h.trans (h1 y hy)
        have hn : ¬ ltE x e := fun h' => asym h' h
        rw [dw_nil hall, List.takeWhile_cons, List.dropWhile_cons]
        simp only [hn, decide_false, Bool.false_eq_true, if_false, List.reverse_nil, true_and]
        have h3 := List.takeWhile_append_dropWhile (p := fun x => decide (ltE e x)) (l := (x :: r).reverse)
        rw [dw_nil hall, List.append_nil] at h3
        rw [h3, List.reverse_reverse]
  rw [key.1, key.2, List.append_nil]
theorem rpush_ev (hT : T 21 = some c21) (h34 : T 34 = some c34) (b : Bool) (S : Que) (x : Evt) (hok : S.Ok) (hseq : ∀ y ∈ S.l, y.seq ≤ S.last) (h : ¬ x.at_ < S.clock) :
    evC T ext 21 [qA b S, .agg x.cv] none = some (.tup [qA false (S.pushed x.at_ x.kind x.node x.arg), .int .i64 (S.last + 1), .int .i64 0], none) := by
  obtain ⟨clock, last, l⟩ := S
  obtain ⟨hlen, hsort, h0, h1⟩ := hok
  simp only at hlen hsort h0 h1 hseq h
  have hw : IntKind.i64.wrap (last + 1) = last + 1 := IntWalk.i64_in _ (by omega)
  have hins := downE_ins ⟨x.at_, last + 1, x.kind, x.node, x.arg⟩ l hsort fun y hy => by have := hseq y hy; unfold ltE; simp only; omega
  obtain ⟨L, hL⟩ : ∃ L, L = insE ⟨x.at_, last + 1, x.kind, x.node, x.arg⟩ l := ⟨_, rfl⟩
  have hLlen : L.length = l.length + 1 := by
    rw [hL, insE, List.length_append, List.length_cons]
    have := congrArg List.length (List.takeWhile_append_dropWhile (p := fun y => decide (cmpE y ⟨x.at_, last + 1, x.kind, x.node, x.arg⟩ < 0)) (l := l))
    rw [List.length_append] at this
    omega
  have hfe : ∀ l : List Evt, freeEls (l.map Evt.cv) = true := fun l => freeEls_map _ _ fun _ => rfl
  have hels := rowOf_els (els_evt l) (hfe l)
  have helsL := rowOf_els (els_evt L) (hfe L)
  simp only [List.length_map] at hels helsL
  rw [hLlen] at helsL
  have r1 : roomOk 40 l.length = true := roomOk_iff.2 ⟨by omega, by omega⟩
  have r2 : roomOk 40 (l.length + 1) = true := roomOk_iff.2 ⟨by omega, by omega⟩
  have r3 : roomOk 40 1 = true := by decide
  have hw2 : IntKind.i64.wrap ((l.length : Int) + 1 - 1) = l.length := by rw [IntWalk.i64_in _ (by omega)]; omega
  have hw3 : IntKind.i64.wrap (l.length : Int) = l.length := IntWalk.i64_in _ (by omega)
  simp only [Que.pushed, Que.ev, ← hL]
  refine evC_intro c21 hT rfl ?_
  rcases l with _ | ⟨y, l⟩
  · have hL0 : L = [⟨x.at_, last + 1, x.kind, x.node, x.arg⟩] := by rw [hL]; simp [insE]
    subst hL0
    simp [c21, frz_free, frz_map, AV.frz, AV.frz0, kill_free, kill_map, AV.kill, AV.kill0, killE_at, killM_at, Slot.kill_v, Slot.kill_a, Slot.kill_mk, m_kill, m_kill0, e_rn, -Option.bind_some, ↓bind_some2, putE_at, setM_at, setO_at, stripE_at, stripM_at, Slot.strip_v, Slot.strip_a, Slot.strip_mk, An.strip, argE_at, noM_at, objE_at, m_init, m_put, m_put0, m_row, m_obj, m_strip, m_stripA, m_stripX, ↓seqK_nrm, ↓seqK_exit, ↓seqK_ret, ↓regK_at, ↓blkK_nrm, ↓blkK_exit, ↓blkK_ret, ↓condC_true, ↓condC_false, ↓guardC_bool, ↓guardC_tup, ↓r_skip, ↓r_seq, ↓r_reg, ↓r_cond, ↓r_block, ↓r_loop, ↓r_exit, ↓r_ret, ↓a_nrm, ↓a_exit, ↓a_ret, ↓o_nil, ↓o_cons, ↓s_plain, ↓s_guard, e_none, e_set, e_newp, e_newr, e_app, e_obj, e_mk, K.run, Opd.get, setRowC_f, setRowC_t, AV.leaf, AV.whole, AV.cells, binC, mmC, eqC, natOf, loadC_f, loadC_t, loadI, Cl.okPtr, Cl.okMem, fillC, fin, finV, objAt, unname, resC, AV.free, AV.free0, AV.back, AV.backN, AV.isObj, AV.named, pack, lendAll, lend, objsOf, endC, AV.elems, Opd.an, zeroAn, elsOk_nil, elsOk_cons, elsOk_append, elsOk_map, elsOk_take, elsOk_drop, take_map_len, List.range_succ, List.range_zero, List.nil_append, List.cons_append, qA, qC, Evt.cv, h, hw, r3]
    refine rpush_lp h34 _ 1 5 _ 1 (by omega) ⟨x.at_, last + 1, x.kind, x.node, x.arg⟩ [⟨.sl b [], .no⟩, ⟨.int .i64 clock, .no⟩, ⟨.int .i64 (last + 1), .no⟩] [⟨.int .i64 x.at_, .no⟩, ⟨.int .i64 (last + 1), .no⟩, ⟨.int .i64 x.kind, .no⟩, ⟨.int .i64 x.node, .no⟩, ⟨.int .i64 x.arg, .no⟩] [⟨.sl true [], .ex⟩, ⟨.int .i64 0, .no⟩, ⟨.int .i64 0, .no⟩] [⟨x.at_, last + 1, x.kind, x.node, x.arg⟩] (fun s hK em2 em3 em4 e7 em => ?main) [] [] rfl rfl _ ⟨?_, ?_, ?_⟩ ?_ ?_ ?_ ?_ ?_ ?_
    case main =>
      obtain ⟨e2, e3, e4⟩ := hK
      simp only [List.map_cons, List.map_nil, Evt.cv, List.length_nil, Nat.zero_add] at helsL em
      simp [frz_free, frz_map, AV.frz, AV.frz0, kill_free, kill_map, AV.kill, AV.kill0, killE_at, killM_at, Slot.kill_v, Slot.kill_a, Slot.kill_mk, m_kill, m_kill0, e_rn, -Option.bind_some, ↓bind_some2, putE_at, setM_at, setO_at, stripE_at, stripM_at, Slot.strip_v, Slot.strip_a, Slot.strip_mk, An.strip, argE_at, noM_at, objE_at, m_init, m_put, m_put0, m_row, m_obj, m_strip, m_stripA, m_stripX, ↓seqK_nrm, ↓seqK_exit, ↓seqK_ret, ↓regK_at, ↓blkK_nrm, ↓blkK_exit, ↓blkK_ret, ↓condC_true, ↓condC_false, ↓guardC_bool, ↓guardC_tup, ↓r_skip, ↓r_seq, ↓r_reg, ↓r_cond, ↓r_block, ↓r_loop, ↓r_exit, ↓r_ret, ↓a_nrm, ↓a_exit, ↓a_ret, ↓o_nil, ↓o_cons, ↓s_plain, ↓s_guard, e_none, e_set, e_newp, e_newr, e_app, e_obj, e_mk, K.run, Opd.get, setRowC_f, setRowC_t, AV.leaf, AV.whole, AV.cells, binC, mmC, eqC, natOf, loadC_f, loadC_t, loadI, Cl.okPtr, Cl.okMem, fillC, fin, finV, objAt, unname, resC, AV.free, AV.free0, AV.back, AV.backN, AV.isObj, AV.named, pack, lendAll, lend, objsOf, endC, AV.elems, Opd.an, zeroAn, elsOk_nil, elsOk_cons, elsOk_append, elsOk_map, elsOk_take, elsOk_drop, take_map_len, List.range_succ, List.range_zero, List.nil_append, List.cons_append, e2, e3, e4, em2, em3, em4, e7, em, helsL]
    all_goals clear hL hins
    all_goals (have hw0 : IntKind.i64.wrap 0 = 0 := by decide)
    all_goals simp [frz_free, frz_map, AV.frz, AV.frz0, kill_free, kill_map, AV.kill, AV.kill0, killE_at, killM_at, Slot.kill_v, Slot.kill_a, Slot.kill_mk, m_kill, m_kill0, e_rn, -Option.bind_some, ↓bind_some2, putE_at, setM_at, setO_at, stripE_at, stripM_at, Slot.strip_v, Slot.strip_a, Slot.strip_mk, An.strip, argE_at, noM_at, objE_at, m_init, m_put, m_put0, m_row, m_obj, m_strip, m_stripA, m_stripX, ↓seqK_nrm, ↓seqK_exit, ↓seqK_ret, ↓regK_at, ↓blkK_nrm, ↓blkK_exit, ↓blkK_ret, ↓condC_true, ↓condC_false, ↓guardC_bool, ↓guardC_tup, ↓r_skip, ↓r_seq, ↓r_reg, ↓r_cond, ↓r_block, ↓r_loop, ↓r_exit, ↓r_ret, ↓a_nrm, ↓a_exit, ↓a_ret, ↓o_nil, ↓o_cons, ↓s_plain, ↓s_guard, e_none, e_set, e_newp, e_newr, e_app, e_obj, e_mk, K.run, Opd.get, setRowC_f, setRowC_t, AV.leaf, AV.whole, AV.cells, binC, mmC, eqC, natOf, loadC_f, loadC_t, loadI, Cl.okPtr, Cl.okMem, fillC, fin, finV, objAt, unname, resC, AV.free, AV.free0, AV.back, AV.backN, AV.isObj, AV.named, pack, lendAll, lend, objsOf, endC, AV.elems, Opd.an, zeroAn, elsOk_nil, elsOk_cons, elsOk_append, elsOk_map, elsOk_take, elsOk_drop, take_map_len, List.range_succ, List.range_zero, List.nil_append, List.cons_append, *, Evt.cv]
  · simp only [List.length_cons] at *
    simp only [List.map_cons, Evt.cv] at hels
    have hlt : 0 < l.length + 1 := by omega
    have e40 : List.drop 5 (rowOf (((y :: l).map Evt.cv))) = rowOf (l.map Evt.cv) := by simp [rowOf, Evt.cv]
    simp [c21, frz_free, frz_map, AV.frz, AV.frz0, kill_free, kill_map, AV.kill, AV.kill0, killE_at, killM_at, Slot.kill_v, Slot.kill_a, Slot.kill_mk, m_kill, m_kill0, e_rn, -Option.bind_some, ↓bind_some2, putE_at, setM_at, setO_at, stripE_at, stripM_at, Slot.strip_v, Slot.strip_a, Slot.strip_mk, An.strip, argE_at, noM_at, objE_at, m_init, m_put, m_put0, m_row, m_obj, m_strip, m_stripA, m_stripX, ↓seqK_nrm, ↓seqK_exit, ↓seqK_ret, ↓regK_at, ↓blkK_nrm, ↓blkK_exit, ↓blkK_ret, ↓condC_true, ↓condC_false, ↓guardC_bool, ↓guardC_tup, ↓r_skip, ↓r_seq, ↓r_reg, ↓r_cond, ↓r_block, ↓r_loop, ↓r_exit, ↓r_ret, ↓a_nrm, ↓a_exit, ↓a_ret, ↓o_nil, ↓o_cons, ↓s_plain, ↓s_guard, e_none, e_set, e_newp, e_newr, e_app, e_obj, e_mk, K.run, Opd.get, setRowC_f, setRowC_t, AV.leaf, AV.whole, AV.cells, binC, mmC, eqC, natOf, loadC_f, loadC_t, loadI, Cl.okPtr, Cl.okMem, fillC, fin, finV, objAt, unname, resC, AV.free, AV.free0, AV.back, AV.backN, AV.isObj, AV.named, pack, lendAll, lend, objsOf, endC, AV.elems, Opd.an, zeroAn, elsOk_nil, elsOk_cons, elsOk_append, elsOk_map, elsOk_take, elsOk_drop, take_map_len, List.range_succ, List.range_zero, List.nil_append, List.cons_append, qA, qC, Evt.cv, h, hw, r1, r2, r3, els_evt, hels]
    refine rpush_lp h34 _ 1 5 _ (l.length + 2) (by omega) ⟨x.at_, last + 1, x.kind, x.node, x.arg⟩ [⟨.sl b ((y :: l).map Evt.cv), .no⟩, ⟨.int .i64 clock, .no⟩, ⟨.int .i64 (last + 1), .no⟩] [⟨.int .i64 x.at_, .no⟩, ⟨.int .i64 (last + 1), .no⟩, ⟨.int .i64 x.kind, .no⟩, ⟨.int .i64 x.node, .no⟩, ⟨.int .i64 x.arg, .no⟩] [⟨.sl true [], .ex⟩, ⟨.int .i64 0, .no⟩, ⟨.int .i64 0, .no⟩] L (fun s hK em2 em3 em4 e7 em => ?main) (y :: l).reverse [] (by simp) (hins.trans hL.symm) _ ⟨?_, ?_, ?_⟩ ?_ ?_ ?_ ?_ ?_ ?_
    case main =>
      obtain ⟨e2, e3, e4⟩ := hK
      simp [frz_free, frz_map, AV.frz, AV.frz0, kill_free, kill_map, AV.kill, AV.kill0, killE_at, killM_at, Slot.kill_v, Slot.kill_a, Slot.kill_mk, m_kill, m_kill0, e_rn, -Option.bind_some, ↓bind_some2, putE_at, setM_at, setO_at, stripE_at, stripM_at, Slot.strip_v, Slot.strip_a, Slot.strip_mk, An.strip, argE_at, noM_at, objE_at, m_init, m_put, m_put0, m_row, m_obj, m_strip, m_stripA, m_stripX, ↓seqK_nrm, ↓seqK_exit, ↓seqK_ret, ↓regK_at, ↓blkK_nrm, ↓blkK_exit, ↓blkK_ret, ↓condC_true, ↓condC_false, ↓guardC_bool, ↓guardC_tup, ↓r_skip, ↓r_seq, ↓r_reg, ↓r_cond, ↓r_block, ↓r_loop, ↓r_exit, ↓r_ret, ↓a_nrm, ↓a_exit, ↓a_ret, ↓o_nil, ↓o_cons, ↓s_plain, ↓s_guard, e_none, e_set, e_newp, e_newr, e_app, e_obj, e_mk, K.run, Opd.get, setRowC_f, setRowC_t, AV.leaf, AV.whole, AV.cells, binC, mmC, eqC, natOf, loadC_f, loadC_t, loadI, Cl.okPtr, Cl.okMem, fillC, fin, finV, objAt, unname, resC, AV.free, AV.free0, AV.back, AV.backN, AV.isObj, AV.named, pack, lendAll, lend, objsOf, endC, AV.elems, Opd.an, zeroAn, elsOk_nil, elsOk_cons, elsOk_append, elsOk_map, elsOk_take, elsOk_drop, take_map_len, List.range_succ, List.range_zero, List.nil_append, List.cons_append, e2, e3, e4, em2, em3, em4, e7, em, helsL]
    all_goals (have hw4 : IntKind.i64.wrap ((l.length : Int) + 1) = (l.length : Int) + 1 := IntWalk.i64_in _ (by omega))
    all_goals simp [frz_free, frz_map, AV.frz, AV.frz0, kill_free, kill_map, AV.kill, AV.kill0, killE_at, killM_at, Slot.kill_v, Slot.kill_a, Slot.kill_mk, m_kill, m_kill0, e_rn, -Option.bind_some, ↓bind_some2, putE_at, setM_at, setO_at, stripE_at, stripM_at, Slot.strip_v, Slot.strip_a, Slot.strip_mk, An.strip, argE_at, noM_at, objE_at, m_init, m_put, m_put0, m_row, m_obj, m_strip, m_stripA, m_stripX, ↓seqK_nrm, ↓seqK_exit, ↓seqK_ret, ↓regK_at, ↓blkK_nrm, ↓blkK_exit, ↓blkK_ret, ↓condC_true, ↓condC_false, ↓guardC_bool, ↓guardC_tup, ↓r_skip, ↓r_seq, ↓r_reg, ↓r_cond, ↓r_block, ↓r_loop, ↓r_exit, ↓r_ret, ↓a_nrm, ↓a_exit, ↓a_ret, ↓o_nil, ↓o_cons, ↓s_plain, ↓s_guard, e_none, e_set, e_newp, e_newr, e_app, e_obj, e_mk, K.run, Opd.get, setRowC_f, setRowC_t, AV.leaf, AV.whole, AV.cells, binC, mmC, eqC, natOf, loadC_f, loadC_t, loadI, Cl.okPtr, Cl.okMem, fillC, fin, finV, objAt, unname, resC, AV.free, AV.free0, AV.back, AV.backN, AV.isObj, AV.named, pack, lendAll, lend, objsOf, endC, AV.elems, Opd.an, zeroAn, elsOk_nil, elsOk_cons, elsOk_append, elsOk_map, elsOk_take, elsOk_drop, take_map_len, List.range_succ, List.range_zero, List.nil_append, List.cons_append, *, Evt.cv]
end
end Go.Proofs.Ytbpbeogipgfjiaa
/- What the calls of the queue give on the machine; a step of both queues; the document's examples. -/
namespace Go.Proofs.Ytbpbeogipgfjiaa
open Go Go.RowKit
def c10 : FnC := ⟨(.seq (.reg [⟨(.some 0), (.mv (.c (.bool .false))), .none⟩]) (.seq (.reg [⟨(.some 19), (.call .any 11 []), .none⟩, ⟨(.some 1), (.mv (.t 19)), .none⟩]) (.seq (.seq (.reg [⟨(.some 20), (.mv (.t 1)), .none⟩, ⟨(.some 21), (.eqn .false .true (.t 20) (.c .nilP)), .none⟩]) (.cond (.t 21) (.seq (.reg [⟨(.some 0), (.mv (.c (.bool .false))), .none⟩]) .ret) .skip)) (.seq (.reg [⟨(.some 23), (.mv (.t 1)), .none⟩, ⟨(.some 24), (.call .any 19 [(.t 23), (.c (.int .i64 5)), (.c (.int .i64 1)), (.c (.int .i64 0)), (.c (.int .i64 0))]), .none⟩, ⟨(.some 22), (.mv (.t 24)), .none⟩, ⟨(.some 25), (.ext (.t 22) 0), .none⟩, ⟨(.some 26), (.ext (.t 22) 1), .none⟩, ⟨(.some 2), (.mv (.t 25)), .none⟩, ⟨(.some 3), (.mv (.t 26)), .none⟩]) (.seq (.reg [⟨(.some 28), (.mv (.t 1)), .none⟩, ⟨(.some 29), (.call .any 19 [(.t 28), (.c (.int .i64 3)), (.c (.int .i64 2)), (.c (.int .i64 0)), (.c (.int .i64 0))]), .none⟩, ⟨(.some 27), (.mv (.t 29)), .none⟩, ⟨(.some 30), (.ext (.t 27) 0), .none⟩, ⟨(.some 31), (.ext (.t 27) 1), .none⟩, ⟨(.some 4), (.mv (.t 30)), .none⟩, ⟨(.some 5), (.mv (.t 31)), .none⟩]) (.seq (.reg [⟨(.some 33), (.mv (.t 1)), .none⟩, ⟨(.some 34), (.call .any 19 [(.t 33), (.c (.int .i64 5)), (.c (.int .i64 3)), (.c (.int .i64 0)), (.c (.int .i64 0))]), .none⟩, ⟨(.some 32), (.mv (.t 34)), .none⟩, ⟨(.some 35), (.ext (.t 32) 0), .none⟩, ⟨(.some 36), (.ext (.t 32) 1), .none⟩, ⟨(.some 6), (.mv (.t 35)), .none⟩, ⟨(.some 7), (.mv (.t 36)), .none⟩]) (.seq (.reg [⟨(.some 38), (.mv (.t 1)), .none⟩, ⟨(.some 39), (.call .any 15 [(.t 38)]), .none⟩, ⟨(.some 37), (.mv (.t 39)), .none⟩, ⟨(.some 40), (.ext (.t 37) 0), .none⟩, ⟨(.some 41), (.ext (.t 37) 1), .none⟩, ⟨(.some 8), (.alloc [(.int .i64 0), (.int .i64 0), (.int .i64 0), (.int .i64 0), (.int .i64 0)]), .none⟩, ⟨.none, (.store .any .true 5 (.t 8) (.t 40)), .none⟩, ⟨(.some 9), (.mv (.t 41)), .none⟩]) (.seq (.reg [⟨(.some 43), (.mv (.t 1)), .none⟩, ⟨(.some 44), (.call .any 13 [(.t 43)]), .none⟩, ⟨(.some 42), (.mv (.t 44)), .none⟩, ⟨(.some 45), (.ext (.t 42) 0), .none⟩, ⟨(.some 46), (.ext (.t 42) 1), .none⟩, ⟨(.some 10), (.mv (.t 45)), .none⟩, ⟨(.some 11), (.mv (.t 46)), .none⟩]) (.seq (.reg [⟨(.some 48), (.mv (.t 1)), .none⟩, ⟨(.some 49), (.call .any 19 [(.t 48), (.c (.int .i64 2)), (.c (.int .i64 4)), (.c (.int .i64 0)), (.c (.int .i64 0))]), .none⟩, ⟨(.some 47), (.mv (.t 49)), .none⟩, ⟨(.some 50), (.ext (.t 47) 0), .none⟩, ⟨(.some 51), (.ext (.t 47) 1), .none⟩, ⟨(.some 12), (.mv (.t 50)), .none⟩, ⟨(.some 13), (.mv (.t 51)), .none⟩]) (.seq (.reg [⟨(.some 52), (.mv (.t 1)), .none⟩, ⟨(.some 53), (.call .any 20 [(.t 52), (.c (.int .i64 1))]), .none⟩, ⟨(.some 54), (.mv (.t 1)), .none⟩, ⟨(.some 55), (.call .any 20 [(.t 54), (.c (.int .i64 1))]), .none⟩, ⟨(.some 14), (.mv (.t 53)), .none⟩, ⟨(.some 15), (.mv (.t 55)), .none⟩]) (.seq (.reg [⟨(.some 56), (.mv (.t 1)), .none⟩, ⟨(.some 57), (.call .any 17 [(.t 56), (.c (.int .i64 9))]), .none⟩, ⟨(.some 16), (.mv (.t 57)), .none⟩]) (.seq (.reg [⟨(.some 59), (.mv (.t 1)), .none⟩, ⟨(.some 60), (.call .any 13 [(.t 59)]), .none⟩, ⟨(.some 58), (.mv (.t 60)), .none⟩, ⟨(.some 61), (.ext (.t 58) 0), .none⟩, ⟨(.some 62), (.ext (.t 58) 1), .none⟩, ⟨(.some 17), (.mv (.t 61)), .none⟩, ⟨(.some 18), (.mv (.t 62)), .none⟩]) (.seq (.reg [⟨(.some 63), (.mv (.t 2)), .none⟩, ⟨(.some 64), (.bin .eql .false (.t 63) (.c (.int .i64 1))), .none⟩, ⟨(.some 65), (.mv (.t 64)), .none⟩, ⟨(.some 66), (.mv (.t 4)), (.some (65, .true))⟩, ⟨(.some 67), (.bin .eql .false (.t 66) (.c (.int .i64 2))), (.some (65, .true))⟩, ⟨(.some 68), (.pick (.t 65) (.t 67) (.c (.bool .false))), .none⟩, ⟨(.some 69), (.mv (.t 68)), .none⟩, ⟨(.some 70), (.mv (.t 6)), (.some (69, .true))⟩, ⟨(.some 71), (.bin .eql .false (.t 70) (.c (.int .i64 3))), (.some (69, .true))⟩, ⟨(.some 72), (.pick (.t 69) (.t 71) (.c (.bool .false))), .none⟩, ⟨(.some 73), (.mv (.t 72)), .none⟩, ⟨(.some 74), (.mv (.t 3)), (.some (73, .true))⟩, ⟨(.some 75), (.bin .eql .false (.t 74) (.c (.int .i64 0))), (.some (73, .true))⟩, ⟨(.some 76), (.pick (.t 73) (.t 75) (.c (.bool .false))), .none⟩, ⟨(.some 77), (.mv (.t 76)), .none⟩, ⟨(.some 78), (.mv (.t 5)), (.some (77, .true))⟩, ⟨(.some 79), (.bin .eql .false (.t 78) (.c (.int .i64 0))), (.some (77, .true))⟩, ⟨(.some 80), (.pick (.t 77) (.t 79) (.c (.bool .false))), .none⟩, ⟨(.some 81), (.mv (.t 80)), .none⟩, ⟨(.some 82), (.mv (.t 7)), (.some (81, .true))⟩, ⟨(.some 83), (.bin .eql .false (.t 82) (.c (.int .i64 0))), (.some (81, .true))⟩, ⟨(.some 84), (.pick (.t 81) (.t 83) (.c (.bool .false))), .none⟩, ⟨(.some 85), (.mv (.t 84)), .none⟩, ⟨(.some 86), (.mv (.t 9)), (.some (85, .true))⟩, ⟨(.some 87), (.pick (.t 85) (.t 86) (.c (.bool .false))), .none⟩, ⟨(.some 88), (.mv (.t 87)), .none⟩, ⟨(.some 89), (.load .any .true 5 (.t 8)), (.some (88, .true))⟩, ⟨(.some 90), (.build [(.int .i64 0), (.int .i64 0), (.int .i64 0), (.int .i64 0), (.int .i64 0)] [(0, (1, (.c (.int .i64 3)))), (1, (1, (.c (.int .i64 2)))), (2, (1, (.c (.int .i64 2))))]), (.some (88, .true))⟩, ⟨(.some 91), (.eqa .false [0, 0, 0, 0, 0] (.t 89) (.t 90)), (.some (88, .true))⟩, ⟨(.some 92), (.pick (.t 88) (.t 91) (.c (.bool .false))), .none⟩, ⟨(.some 93), (.mv (.t 92)), .none⟩, ⟨(.some 94), (.mv (.t 10)), (.some (93, .true))⟩, ⟨(.some 95), (.bin .eql .false (.t 94) (.c (.int .i64 3))), (.some (93, .true))⟩, ⟨(.some 96), (.pick (.t 93) (.t 95) (.c (.bool .false))), .none⟩, ⟨(.some 97), (.mv (.t 96)), .none⟩, ⟨(.some 98), (.mv (.t 11)), (.some (97, .true))⟩, ⟨(.some 99), (.bin .eql .false (.t 98) (.c (.int .i64 2))), (.some (97, .true))⟩, ⟨(.some 100), (.pick (.t 97) (.t 99) (.c (.bool .false))), .none⟩, ⟨(.some 101), (.mv (.t 100)), .none⟩, ⟨(.some 102), (.mv (.t 13)), (.some (101, .true))⟩, ⟨(.some 103), (.bin .eql .false (.t 102) (.c (.int .i64 7))), (.some (101, .true))⟩, ⟨(.some 104), (.pick (.t 101) (.t 103) (.c (.bool .false))), .none⟩, ⟨(.some 105), (.mv (.t 104)), .none⟩, ⟨(.some 106), (.mv (.t 14)), (.some (105, .true))⟩, ⟨(.some 107), (.pick (.t 105) (.t 106) (.c (.bool .false))), .none⟩, ⟨(.some 108), (.mv (.t 107)), .none⟩, ⟨(.some 109), (.mv (.t 15)), (.some (108, .true))⟩, ⟨(.some 110), (.un .not (.t 109)), (.some (108, .true))⟩, ⟨(.some 111), (.pick (.t 108) (.t 110) (.c (.bool .false))), .none⟩, ⟨(.some 112), (.mv (.t 111)), .none⟩, ⟨(.some 113), (.mv (.t 16)), (.some (112, .true))⟩, ⟨(.some 114), (.build [(.int .i64 0), (.int .i64 0), (.int .i64 0), (.int .i64 0), (.int .i64 0)] [(0, (1, (.c (.int .i64 5)))), (1, (1, (.c (.int .i64 3)))), (2, (1, (.c (.int .i64 3))))]), (.some (112, .true))⟩, ⟨(.some 115), (.bsl [(.int .i64 0), (.int .i64 0), (.int .i64 0), (.int .i64 0), (.int .i64 0)] 1 [(0, (.t 114))]), (.some (112, .true))⟩, ⟨(.some 116), (.call .any 18 [(.t 113), (.t 115)]), (.some (112, .true))⟩, ⟨(.some 117), (.pick (.t 112) (.t 116) (.c (.bool .false))), .none⟩, ⟨(.some 118), (.mv (.t 117)), .none⟩, ⟨(.some 119), (.mv (.t 17)), (.some (118, .true))⟩, ⟨(.some 120), (.bin .eql .false (.t 119) (.c (.int .i64 9))), (.some (118, .true))⟩, ⟨(.some 121), (.pick (.t 118) (.t 120) (.c (.bool .false))), .none⟩, ⟨(.some 122), (.mv (.t 121)), .none⟩, ⟨(.some 123), (.mv (.t 18)), (.some (122, .true))⟩, ⟨(.some 124), (.bin .eql .false (.t 123) (.c (.int .i64 0))), (.some (122, .true))⟩, ⟨(.some 125), (.pick (.t 122) (.t 124) (.c (.bool .false))), .none⟩, ⟨(.some 0), (.mv (.t 125)), .none⟩]) .ret))))))))))))), [(.tmp 0)], 0, []⟩
def c12 : FnC := ⟨(.seq (.reg [⟨(.some 4), (.box 3 (.t 1)), .none⟩, ⟨(.some 5), (.box 6 (.t 2)), .none⟩, ⟨(.some 6), (.alloc [(.sl .true []), (.int .i64 0), (.int .i64 0)]), .none⟩, ⟨(.some 7), (.mv (.c (.bool .false))), .none⟩]) (.seq (.reg [⟨(.some 30), (.faddr 1 (.t 5)), .none⟩, ⟨(.some 31), (.load .any .true 5 (.t 30)), .none⟩, ⟨(.some 8), (.alloc [(.int .i64 0), (.int .i64 0), (.int .i64 0), (.int .i64 0), (.int .i64 0)]), .none⟩, ⟨.none, (.store .any .true 5 (.t 8) (.t 31)), .none⟩]) (.seq (.seq (.reg [⟨(.some 32), (.faddr 0 (.t 5)), .none⟩, ⟨(.some 33), (.load .any .false 1 (.t 32)), .none⟩, ⟨(.some 34), (.bin .rem .false (.t 33) (.c (.int .u8 5))), .none⟩]) (.block 0 (.seq (.reg [⟨(.some 36), (.bin .eql .false (.t 34) (.c (.int .u8 0))), .none⟩, ⟨(.some 35), (.mv (.t 36)), .none⟩]) (.cond (.t 35) (.seq (.reg [⟨(.some 38), (.mv (.t 0)), .none⟩, ⟨(.some 39), (.faddr 0 (.t 8)), .none⟩, ⟨(.some 40), (.load .any .false 1 (.t 39)), .none⟩, ⟨(.some 41), (.faddr 2 (.t 8)), .none⟩, ⟨(.some 42), (.load .any .false 1 (.t 41)), .none⟩, ⟨(.some 43), (.faddr 3 (.t 8)), .none⟩, ⟨(.some 44), (.load .any .false 1 (.t 43)), .none⟩, ⟨(.some 45), (.faddr 4 (.t 8)), .none⟩, ⟨(.some 46), (.load .any .false 1 (.t 45)), .none⟩, ⟨(.some 47), (.call .any 19 [(.t 38), (.t 40), (.t 42), (.t 44), (.t 46)]), .none⟩, ⟨(.some 37), (.mv (.t 47)), .none⟩, ⟨(.some 48), (.ext (.t 37) 0), .none⟩, ⟨(.some 49), (.ext (.t 37) 1), .none⟩, ⟨(.some 9), (.mv (.t 48)), .none⟩, ⟨(.some 10), (.mv (.t 49)), .none⟩]) (.seq (.reg [⟨(.some 51), (.load .any .true 3 (.t 4)), .none⟩, ⟨(.some 52), (.load .any .true 5 (.t 8)), .none⟩, ⟨(.some 53), (.call .any 21 [(.t 51), (.t 52)]), .none⟩, ⟨(.some 50), (.mv (.t 53)), .none⟩, ⟨(.some 54), (.ext (.t 50) 0), .none⟩, ⟨(.some 55), (.ext (.t 50) 1), .none⟩, ⟨(.some 56), (.ext (.t 50) 2), .none⟩, ⟨(.some 11), (.alloc [(.sl .true []), (.int .i64 0), (.int .i64 0)]), .none⟩, ⟨.none, (.store .any .true 3 (.t 11) (.t 54)), .none⟩, ⟨(.some 12), (.mv (.t 55)), .none⟩, ⟨(.some 13), (.mv (.t 56)), .none⟩]) (.seq (.reg [⟨(.some 57), (.load .any .true 3 (.t 11)), .none⟩, ⟨(.some 58), (.mv (.t 9)), .none⟩, ⟨(.some 59), (.mv (.t 12)), .none⟩, ⟨(.some 60), (.bin .eql .false (.t 58) (.t 59)), .none⟩, ⟨(.some 61), (.mv (.t 60)), .none⟩, ⟨(.some 62), (.mv (.t 10)), (.some (61, .true))⟩, ⟨(.some 63), (.mv (.t 13)), (.some (61, .true))⟩, ⟨(.some 64), (.bin .eql .false (.t 62) (.t 63)), (.some (61, .true))⟩, ⟨(.some 65), (.pick (.t 61) (.t 64) (.c (.bool .false))), .none⟩, ⟨.none, (.store .any .true 3 (.t 6) (.t 57)), .none⟩, ⟨(.some 7), (.mv (.t 65)), .none⟩]) .ret))) (.seq (.reg [⟨(.some 67), (.bin .eql .false (.t 34) (.c (.int .u8 1))), .none⟩, ⟨(.some 66), (.mv (.t 67)), .none⟩]) (.cond (.t 66) (.seq (.reg [⟨(.some 69), (.mv (.t 0)), .none⟩, ⟨(.some 70), (.call .any 15 [(.t 69)]), .none⟩, ⟨(.some 68), (.mv (.t 70)), .none⟩, ⟨(.some 71), (.ext (.t 68) 0), .none⟩, ⟨(.some 72), (.ext (.t 68) 1), .none⟩, ⟨(.some 14), (.alloc [(.int .i64 0), (.int .i64 0), (.int .i64 0), (.int .i64 0), (.int .i64 0)]), .none⟩, ⟨.none, (.store .any .true 5 (.t 14) (.t 71)), .none⟩, ⟨(.some 15), (.mv (.t 72)), .none⟩]) (.seq (.reg [⟨(.some 74), (.load .any .true 3 (.t 4)), .none⟩, ⟨(.some 75), (.call .any 22 [(.t 74)]), .none⟩, ⟨(.some 73), (.mv (.t 75)), .none⟩, ⟨(.some 76), (.ext (.t 73) 0), .none⟩, ⟨(.some 77), (.ext (.t 73) 1), .none⟩, ⟨(.some 78), (.ext (.t 73) 2), .none⟩, ⟨(.some 16), (.alloc [(.sl .true []), (.int .i64 0), (.int .i64 0)]), .none⟩, ⟨(.some 17), (.alloc [(.int .i64 0), (.int .i64 0), (.int .i64 0), (.int .i64 0), (.int .i64 0)]), .none⟩, ⟨.none, (.store .any .true 3 (.t 16) (.t 76)), .none⟩, ⟨.none, (.store .any .true 5 (.t 17) (.t 77)), .none⟩, ⟨(.some 18), (.mv (.t 78)), .none⟩]) (.seq (.reg [⟨(.some 79), (.load (.root 16) .true 3 (.t 16)), .none⟩, ⟨(.some 80), (.load (.root 14) .true 5 (.t 14)), .none⟩, ⟨(.some 81), (.load (.root 17) .true 5 (.t 17)), .none⟩, ⟨(.some 82), (.eqa .false [0, 0, 0, 0, 0] (.t 80) (.t 81)), .none⟩, ⟨(.some 83), (.mv (.t 82)), .none⟩, ⟨(.some 84), (.mv (.t 15)), (.some (83, .true))⟩, ⟨(.some 85), (.mv (.t 18)), (.some (83, .true))⟩, ⟨(.some 86), (.bin .eql .true (.t 84) (.t 85)), (.some (83, .true))⟩, ⟨(.some 87), (.pick (.t 83) (.t 86) (.c (.bool .false))), .none⟩, ⟨.none, (.store (.root 6) .true 3 (.t 6) (.t 79)), .none⟩, ⟨(.some 7), (.mv (.t 87)), .none⟩]) .ret))) (.seq (.reg [⟨(.some 89), (.bin .eql .false (.t 34) (.c (.int .u8 2))), .none⟩, ⟨(.some 88), (.mv (.t 89)), .none⟩]) (.cond (.t 88) (.seq (.reg [⟨(.some 91), (.mv (.t 0)), .none⟩, ⟨(.some 92), (.call .any 16 [(.t 91)]), .none⟩, ⟨(.some 90), (.mv (.t 92)), .none⟩, ⟨(.some 93), (.ext (.t 90) 0), .none⟩, ⟨(.some 94), (.ext (.t 90) 1), .none⟩, ⟨(.some 19), (.alloc [(.int .i64 0), (.int .i64 0), (.int .i64 0), (.int .i64 0), (.int .i64 0)]), .none⟩, ⟨.none, (.store .any .true 5 (.t 19) (.t 93)), .none⟩, ⟨(.some 20), (.mv (.t 94)), .none⟩]) (.seq (.reg [⟨(.some 96), (.load .any .true 3 (.t 4)), .none⟩, ⟨(.some 97), (.call .any 22 [(.t 96)]), .none⟩, ⟨(.some 95), (.mv (.t 97)), .none⟩, ⟨(.some 98), (.ext (.t 95) 0), .none⟩, ⟨(.some 99), (.ext (.t 95) 1), .none⟩, ⟨(.some 100), (.ext (.t 95) 2), .none⟩, ⟨(.some 21), (.alloc [(.sl .true []), (.int .i64 0), (.int .i64 0)]), .none⟩, ⟨(.some 22), (.alloc [(.int .i64 0), (.int .i64 0), (.int .i64 0), (.int .i64 0), (.int .i64 0)]), .none⟩, ⟨.none, (.store .any .true 3 (.t 21) (.t 98)), .none⟩, ⟨.none, (.store .any .true 5 (.t 22) (.t 99)), .none⟩, ⟨(.some 23), (.mv (.t 100)), .none⟩]) (.seq (.reg [⟨(.some 101), (.load (.root 4) .true 3 (.t 4)), .none⟩, ⟨(.some 102), (.load (.root 19) .true 5 (.t 19)), .none⟩, ⟨(.some 103), (.load (.root 22) .true 5 (.t 22)), .none⟩, ⟨(.some 104), (.eqa .false [0, 0, 0, 0, 0] (.t 102) (.t 103)), .none⟩, ⟨(.some 105), (.mv (.t 104)), .none⟩, ⟨(.some 106), (.mv (.t 20)), (.some (105, .true))⟩, ⟨(.some 107), (.mv (.t 23)), (.some (105, .true))⟩, ⟨(.some 108), (.bin .eql .true (.t 106) (.t 107)), (.some (105, .true))⟩, ⟨(.some 109), (.pick (.t 105) (.t 108) (.c (.bool .false))), .none⟩, ⟨.none, (.store (.root 6) .true 3 (.t 6) (.t 101)), .none⟩, ⟨(.some 7), (.mv (.t 109)), .none⟩]) .ret))) (.seq (.reg [⟨(.some 111), (.bin .eql .false (.t 34) (.c (.int .u8 3))), .none⟩, ⟨(.some 110), (.mv (.t 111)), .none⟩]) (.cond (.t 110) (.seq (.reg [⟨(.some 112), (.mv (.t 0)), .none⟩, ⟨(.some 113), (.faddr 1 (.t 8)), .none⟩, ⟨(.some 114), (.load .any .false 1 (.t 113)), .none⟩, ⟨(.some 115), (.call .any 20 [(.t 112), (.t 114)]), .none⟩, ⟨(.some 24), (.mv (.t 115)), .none⟩]) (.seq (.reg [⟨(.some 117), (.load .any .true 3 (.t 4)), .none⟩, ⟨(.some 118), (.faddr 1 (.t 8)), .none⟩, ⟨(.some 119), (.load .any .false 1 (.t 118)), .none⟩, ⟨(.some 120), (.call .any 23 [(.t 117), (.t 119)]), .none⟩, ⟨(.some 116), (.mv (.t 120)), .none⟩, ⟨(.some 121), (.ext (.t 116) 0), .none⟩, ⟨(.some 122), (.ext (.t 116) 1), .none⟩, ⟨(.some 25), (.alloc [(.sl .true []), (.int .i64 0), (.int .i64 0)]), .none⟩, ⟨.none, (.store .any .true 3 (.t 25) (.t 121)), .none⟩, ⟨(.some 26), (.mv (.t 122)), .none⟩]) (.seq (.reg [⟨(.some 123), (.load .any .true 3 (.t 25)), .none⟩, ⟨(.some 124), (.mv (.t 24)), .none⟩, ⟨(.some 125), (.mv (.t 26)), .none⟩, ⟨(.some 126), (.bin .eql .true (.t 124) (.t 125)), .none⟩, ⟨.none, (.store .any .true 3 (.t 6) (.t 123)), .none⟩, ⟨(.some 7), (.mv (.t 126)), .none⟩]) .ret))) .skip)))))))))) (.seq (.reg [⟨(.some 127), (.mv (.t 0)), .none⟩, ⟨(.some 128), (.faddr 0 (.t 8)), .none⟩, ⟨(.some 129), (.load .any .false 1 (.t 128)), .none⟩, ⟨(.some 130), (.call .any 17 [(.t 127), (.t 129)]), .none⟩, ⟨(.some 27), (.mv (.t 130)), .none⟩]) (.seq (.reg [⟨(.some 132), (.load .any .true 3 (.t 4)), .none⟩, ⟨(.some 133), (.faddr 0 (.t 8)), .none⟩, ⟨(.some 134), (.load .any .false 1 (.t 133)), .none⟩, ⟨(.some 135), (.call .any 24 [(.t 132), (.t 134)]), .none⟩, ⟨(.some 131), (.mv (.t 135)), .none⟩, ⟨(.some 136), (.ext (.t 131) 0), .none⟩, ⟨(.some 137), (.ext (.t 131) 1), .none⟩, ⟨(.some 28), (.alloc [(.sl .true []), (.int .i64 0), (.int .i64 0)]), .none⟩, ⟨.none, (.store .any .true 3 (.t 28) (.t 136)), .none⟩, ⟨(.some 29), (.mv (.t 137)), .none⟩]) (.seq (.reg [⟨(.some 138), (.load (.root 28) .true 3 (.t 28)), .none⟩, ⟨(.some 139), (.mv (.t 27)), .none⟩, ⟨(.some 140), (.mv (.t 29)), .none⟩, ⟨(.some 141), (.call .imm 18 [(.t 139), (.t 140)]), .none⟩, ⟨.none, (.store (.root 6) .true 3 (.t 6) (.t 138)), .none⟩, ⟨(.some 7), (.mv (.t 141)), .none⟩]) .ret)))))), [(.cell 6 .true 3), (.tmp 7)], 3, []⟩
set_option maxRecDepth 10000
set_option maxHeartbeats 2000000
set_option linter.unusedSimpArgs false
/-- what holds of a queue behind n operations -/
structure Que.Inv (n : Nat) (S : Que) : Prop where
  len : S.l.length ≤ n
  sort : S.l.Pairwise ltE
  last0 : 0 ≤ S.last
  last : S.last ≤ n
  seq : ∀ y ∈ S.l, 1 ≤ y.seq ∧ y.seq ≤ S.last
  clock : ∀ y ∈ S.l, S.clock ≤ y.at_
theorem Que.Inv.ok {n : Nat} {S : Que} (h : S.Inv n) (hn : n ≤ 700) : S.Ok := ⟨by have := h.len; omega, h.sort, h.last0, by have := h.last; omega⟩
theorem Que.Inv.more {n m : Nat} {S : Que} (h : S.Inv n) (hn : n ≤ m) : S.Inv m := ⟨by have := h.len; omega, h.sort, h.last0, by have := h.last; omega, h.seq, h.clock⟩
theorem inv_new : Que.Inv 0 ⟨0, 0, []⟩ := ⟨by simp, by simp, by simp, by simp, by simp, by simp⟩
theorem mem_insE {x y : Evt} {l : List Evt} (h : y ∈ insE x l) : y = x ∨ y ∈ l := by
  unfold insE at h
  rcases List.mem_append.1 h with h | h
  · exact .inr ((List.takeWhile_sublist _).subset h)
  · rcases List.mem_cons.1 h with h | h
    · exact .inl h
    · exact .inr ((List.dropWhile_sublist _).subset h)
theorem insE_len (x : Evt) (l : List Evt) : (insE x l).length = l.length + 1 := by
  rw [insE, List.length_append, List.length_cons]
  have := congrArg List.length (List.takeWhile_append_dropWhile (p := fun y => decide (cmpE y x < 0)) (l := l))
  rw [List.length_append] at this
  omega
theorem insE_sort (x : Evt) : ∀ l : List Evt, l.Pairwise ltE → (∀ y ∈ l, ltE y x ∨ ltE x y) → (insE x l).Pairwise ltE
  | [], _, _ => by simp [insE]
  | e :: l, h, ht => by
    obtain ⟨h1, h2⟩ := List.pairwise_cons.1 h
    by_cases he : ltE e x
    · have e1 : insE x (e :: l) = e :: insE x l := by simp [insE, List.takeWhile_cons, List.dropWhile_cons, cmp_ltE, he]
      rw [e1]
      refine List.pairwise_cons.2 ⟨fun y hy => ?_, insE_sort x l h2 fun y hy => ht y (List.mem_cons_of_mem _ hy)⟩
      rcases mem_insE hy with rfl | hy
      · exact he
      · exact h1 y hy
    · have e1 : insE x (e :: l) = x :: e :: l := by simp [insE, List.takeWhile_cons, List.dropWhile_cons, cmp_ltE, he]
      rw [e1]
      have hx : ltE x e := (ht e List.mem_cons_self).resolve_left he
      refine List.pairwise_cons.2 ⟨fun y hy => ?_, h⟩
      rcases List.mem_cons.1 hy with rfl | hy
      · exact hx
      · exact hx.trans (h1 y hy)
theorem Que.Inv.push {n : Nat} {S : Que} (h : S.Inv n) (a k d g : Int) : (S.push a k d g).1.Inv (n + 1) := by
  unfold Que.push
  split
  · exact h.more (by omega)
  · rename_i ha
    refine ⟨?_, ?_, ?_, ?_, ?_, ?_⟩
    · show (insE _ S.l).length ≤ _
      rw [insE_len]; have := h.len; omega
    · refine insE_sort _ _ h.sort fun y hy => ?_
      have := (h.seq y hy).2
      unfold ltE Que.ev
      simp only
      omega
    · show 0 ≤ S.last + 1; have := h.last0; omega
    · show S.last + 1 ≤ _; have := h.last; omega
    · intro y hy
      show 1 ≤ y.seq ∧ y.seq ≤ S.last + 1
      have h0 := h.last0
      rcases mem_insE hy with rfl | hy
      · simp only [Que.ev]; omega
      · have := h.seq y hy; omega
    · intro y hy
      show S.clock ≤ y.at_
      rcases mem_insE hy with rfl | hy
      · simp only [Que.ev]; omega
      · exact h.clock y hy
theorem Que.Inv.pop {n : Nat} {S : Que} (h : S.Inv n) : S.pop.1.Inv n := by
  obtain ⟨c, m, l⟩ := S
  cases l with
  | nil => exact h
  | cons e l =>
    have hs := List.pairwise_cons.1 h.sort
    exact ⟨by have := h.len; simp at this; simp only [Que.pop]; omega, hs.2, h.last0, h.last, fun y hy => h.seq y (List.mem_cons_of_mem _ hy), fun y hy => by
      have := hs.1 y hy
      simp only [Que.pop]
      unfold ltE at this
      omega⟩
theorem Que.Inv.cancel {n : Nat} {S : Que} (h : S.Inv n) (q : Int) : (S.cancel q).1.Inv n := by
  unfold Que.cancel
  split
  · exact h
  · rename_i i _
    have hsub := List.eraseIdx_sublist S.l i
    exact ⟨Nat.le_trans hsub.length_le h.len, h.sort.sublist hsub, h.last0, h.last, fun y hy => h.seq y (hsub.subset hy), fun y hy => h.clock y (hsub.subset hy)⟩
theorem Que.Inv.until {n : Nat} {S : Que} (h : S.Inv n) (t : Int) : (S.until t).1.Inv n := by
  have hsub := List.dropWhile_sublist (fun e => decide (e.at_ ≤ t)) (l := S.l)
  refine ⟨Nat.le_trans hsub.length_le h.len, h.sort.sublist hsub, h.last0, h.last, fun y hy => h.seq y (hsub.subset hy), fun y hy => ?_⟩
  show max S.clock t ≤ y.at_
  have h1 := h.clock y (hsub.subset hy)
  have h2 : t ≤ y.at_ := by
    have hp := h.sort.sublist hsub
    have hy' : y ∈ S.l.dropWhile (fun e => decide (e.at_ ≤ t)) := hy
    have hhead : ∀ l : List Evt, ∀ x r, l.dropWhile (fun e => decide (e.at_ ≤ t)) = x :: r → ¬ x.at_ ≤ t := fun l => by
      induction l with
      | nil => intro x r h; simp at h
      | cons z l ih =>
        intro x r h
        rw [List.dropWhile_cons] at h
        split at h
        · exact ih x r h
        · rename_i hz; injection h with h1 h2; subst h1; simpa using hz
    cases hd : S.l.dropWhile (fun e => decide (e.at_ ≤ t)) with
    | nil => rw [hd] at hy'; cases hy'
    | cons x r =>
      have hx := hhead _ _ _ hd
      rw [hd] at hy' hp
      rcases List.mem_cons.1 hy' with rfl | hy'
      · omega
      · have := (List.pairwise_cons.1 hp).1 y hy'
        unfold ltE at this
        omega
  omega
/-- an operation -/
structure Opn where
  kind : Int
  e : Evt
def Opn.ok (o : Opn) : Prop := 0 ≤ o.kind ∧ o.kind ≤ 255
def Opn.cv (o : Opn) : List AV := .int .u8 o.kind :: o.e.cv
def Que.step (S : Que) (o : Opn) : Que :=
  if o.kind % 5 = 0 then (S.push o.e.at_ o.e.kind o.e.node o.e.arg).1 else if o.kind % 5 = 1 then S.pop.1 else if o.kind % 5 = 2 then S else if o.kind % 5 = 3 then (S.cancel o.e.seq).1 else (S.until o.e.at_).1
theorem Que.Inv.step {n : Nat} {S : Que} (h : S.Inv n) (o : Opn) : (S.step o).Inv (n + 1) := by
  unfold Que.step
  split
  · exact h.push _ _ _ _
  · split
    · exact h.pop.more (by omega)
    · split
      · exact h.more (by omega)
      · split
        · exact (h.cancel _).more (by omega)
        · exact (h.until _).more (by omega)
section
variable {T : Nat → Option FnC}
theorem xnew (hT : T 11 = none) : evC T queExt 11 [] none = some (.ptr 0 0 0, some (encQ ⟨0, 0, []⟩)) := evC_ext hT (by simp [queExt])
theorem xnow (hT : T 13 = none) (S : Que) : evC T queExt 13 [.ptr 0 0 0] (some (encQ S)) = some (.tup [.int .i64 S.clock, .int .i64 S.l.length], some (encQ S)) := evC_ext hT (by simp [queExt, decQ_enc])
theorem xpeek (hT : T 16 = none) (S : Que) (h : S.l.length ≤ 900) : evC T queExt 16 [.ptr 0 0 0] (some (encQ S)) = some (.tup [.agg S.peek.1.cv, .bool S.peek.2], some (encQ S)) := evC_ext hT (by simp [queExt, decQ_enc, h])
theorem xpop (hT : T 15 = none) (S : Que) (h : S.l.length ≤ 900) : evC T queExt 15 [.ptr 0 0 0] (some (encQ S)) = some (.tup [.agg S.pop.2.1.cv, .bool S.pop.2.2], some (encQ S.pop.1)) := evC_ext hT (by simp [queExt, decQ_enc, h])
theorem xcancel (hT : T 20 = none) (S : Que) (h : S.l.length ≤ 900) (q : Int) : evC T queExt 20 [.ptr 0 0 0, .int .i64 q] (some (encQ S)) = some (.bool (S.cancel q).2, some (encQ (S.cancel q).1)) := evC_ext hT (by simp [queExt, decQ_enc, h])
theorem xuntil (hT : T 17 = none) (S : Que) (h : S.l.length ≤ 900) (t : Int) : evC T queExt 17 [.ptr 0 0 0, .int .i64 t] (some (encQ S)) = some (.sl false ((S.until t).2.map Evt.cv), some (encQ (S.until t).1)) := evC_ext hT (by simp [queExt, decQ_enc, h, evsA])
theorem xpush (hT : T 19 = none) (S : Que) (h : S.Ok) (a k n g : Int) : evC T queExt 19 [.ptr 0 0 0, .int .i64 a, .int .i64 k, .int .i64 n, .int .i64 g] (some (encQ S)) = some (.tup [.int .i64 (S.push a k n g).2.1, .int .i64 (S.push a k n g).2.2], some (encQ (S.push a k n g).1)) := evC_ext hT (by simp [queExt, decQ_enc, h])
/-- the tables -/
structure Tbl (T : Nat → Option FnC) : Prop where
  new : T 11 = none
  now : T 13 = none
  peek : T 16 = none
  pop : T 15 = none
  cancel : T 20 = none
  unt : T 17 = none
  push : T 19 = none
  rpush : T 21 = some c21
  rpop : T 22 = some c22
  rcancel : T 23 = some c23
  runtil : T 24 = some c24
  rsame : T 18 = some c18
  before : T 34 = some c34
  without : T 35 = some c35
  step : T 12 = some c12
  awake : T 10 = some c10
theorem qstep_ev (h : Tbl T) {n : Nat} (hn : n ≤ 600) (b : Bool) (S : Que) (hI : S.Inv n) (o : Opn) (ho : o.ok) : ∃ b', evC T queExt 12 [.ptr 0 0 0, qA b S, .agg o.cv] (some (encQ S)) = some (.tup [qA b' (S.step o), .bool true], some (encQ (S.step o))) := by
  obtain ⟨k, e⟩ := o
  have hlen := hI.len
  have hok := hI.ok (by omega)
  obtain ⟨hk0, hk1⟩ := ho
  simp only at hk0 hk1
  have ht : k.tmod 5 = k % 5 := Int.tmod_eq_emod_of_nonneg hk0
  have h5 : k % 5 = 0 ∨ k % 5 = 1 ∨ k % 5 = 2 ∨ k % 5 = 3 ∨ k % 5 = 4 := by omega
  rcases h5 with h5 | h5 | h5 | h5 | h5 <;> rw [h5] at ht <;> simp only [Que.step, h5]
  · by_cases hlow : e.at_ < S.clock
    · refine ⟨b, ?_⟩
      have h1 := xpush h.push S hok e.at_ e.kind e.node e.arg
      have h2 := rpush_low (ext := queExt) h.rpush b S e hlow
      simp only [Que.push, if_pos hlow] at h1
      simp only [Evt.cv, qA, qC] at h1 h2
      simp only [Que.push, if_pos hlow]
      refine evC_intro c12 h.step rfl ?_
      simp [c12, frz_free, frz_map, AV.frz, AV.frz0, kill_free, kill_map, AV.kill, AV.kill0, killE_at, killM_at, Slot.kill_v, Slot.kill_a, Slot.kill_mk, m_kill, m_kill0, e_rn, -Option.bind_some, ↓bind_some2, putE_at, setM_at, setO_at, stripE_at, stripM_at, Slot.strip_v, Slot.strip_a, Slot.strip_mk, An.strip, argE_at, noM_at, objE_at, m_init, m_put, m_put0, m_row, m_obj, m_strip, m_stripA, m_stripX, ↓seqK_nrm, ↓seqK_exit, ↓seqK_ret, ↓regK_at, ↓blkK_nrm, ↓blkK_exit, ↓blkK_ret, ↓condC_true, ↓condC_false, ↓guardC_bool, ↓guardC_tup, ↓r_skip, ↓r_seq, ↓r_reg, ↓r_cond, ↓r_block, ↓r_loop, ↓r_exit, ↓r_ret, ↓a_nrm, ↓a_exit, ↓a_ret, ↓o_nil, ↓o_cons, ↓s_plain, ↓s_guard, e_none, e_set, e_newp, e_newr, e_app, e_obj, e_mk, K.run, Opd.get, setRowC_f, setRowC_t, AV.leaf, AV.whole, AV.cells, binC, mmC, eqC, natOf, loadC_f, loadC_t, loadI, Cl.okPtr, Cl.okMem, fillC, fin, finV, objAt, unname, resC, AV.free, AV.free0, AV.back, AV.backN, AV.isObj, AV.named, pack, lendAll, lend, objsOf, endC, AV.elems, Opd.an, zeroAn, elsOk_nil, elsOk_cons, elsOk_append, elsOk_map, elsOk_take, elsOk_drop, take_map_len, List.range_succ, List.range_zero, List.nil_append, List.cons_append, Opn.cv, Evt.cv, qA, qC, ht, h1, h2]
    · refine ⟨false, ?_⟩
      have h1 := xpush h.push S hok e.at_ e.kind e.node e.arg
      have h2 := rpush_ev (ext := queExt) h.rpush h.before b S e hok (fun y hy => (hI.seq y hy).2) hlow
      simp only [Que.push, if_neg hlow] at h1
      simp only [Que.push, if_neg hlow]
      generalize S.pushed e.at_ e.kind e.node e.arg = S' at *
      simp only [Evt.cv, qA, qC] at h1 h2
      refine evC_intro c12 h.step rfl ?_
      simp [c12, frz_free, frz_map, AV.frz, AV.frz0, kill_free, kill_map, AV.kill, AV.kill0, killE_at, killM_at, Slot.kill_v, Slot.kill_a, Slot.kill_mk, m_kill, m_kill0, e_rn, -Option.bind_some, ↓bind_some2, putE_at, setM_at, setO_at, stripE_at, stripM_at, Slot.strip_v, Slot.strip_a, Slot.strip_mk, An.strip, argE_at, noM_at, objE_at, m_init, m_put, m_put0, m_row, m_obj, m_strip, m_stripA, m_stripX, ↓seqK_nrm, ↓seqK_exit, ↓seqK_ret, ↓regK_at, ↓blkK_nrm, ↓blkK_exit, ↓blkK_ret, ↓condC_true, ↓condC_false, ↓guardC_bool, ↓guardC_tup, ↓r_skip, ↓r_seq, ↓r_reg, ↓r_cond, ↓r_block, ↓r_loop, ↓r_exit, ↓r_ret, ↓a_nrm, ↓a_exit, ↓a_ret, ↓o_nil, ↓o_cons, ↓s_plain, ↓s_guard, e_none, e_set, e_newp, e_newr, e_app, e_obj, e_mk, K.run, Opd.get, setRowC_f, setRowC_t, AV.leaf, AV.whole, AV.cells, binC, mmC, eqC, natOf, loadC_f, loadC_t, loadI, Cl.okPtr, Cl.okMem, fillC, fin, finV, objAt, unname, resC, AV.free, AV.free0, AV.back, AV.backN, AV.isObj, AV.named, pack, lendAll, lend, objsOf, endC, AV.elems, Opd.an, zeroAn, elsOk_nil, elsOk_cons, elsOk_append, elsOk_map, elsOk_take, elsOk_drop, take_map_len, List.range_succ, List.range_zero, List.nil_append, List.cons_append, Opn.cv, Evt.cv, qA, qC, ht, h1, h2]
  · have h1 := xpop h.pop S (by omega)
    cases hl : S.l with
    | nil =>
      have h2 := rpop_nil (ext := queExt) h.rpop b S hl
      have e1 : S.pop = (S, zeroE, false) := by simp [Que.pop, hl]
      simp only [e1] at h1 ⊢
      refine ⟨b, ?_⟩
      simp only [Evt.cv, qA, qC] at h1 h2
      refine evC_intro c12 h.step rfl ?_
      simp [c12, frz_free, frz_map, AV.frz, AV.frz0, kill_free, kill_map, AV.kill, AV.kill0, killE_at, killM_at, Slot.kill_v, Slot.kill_a, Slot.kill_mk, m_kill, m_kill0, e_rn, -Option.bind_some, ↓bind_some2, putE_at, setM_at, setO_at, stripE_at, stripM_at, Slot.strip_v, Slot.strip_a, Slot.strip_mk, An.strip, argE_at, noM_at, objE_at, m_init, m_put, m_put0, m_row, m_obj, m_strip, m_stripA, m_stripX, ↓seqK_nrm, ↓seqK_exit, ↓seqK_ret, ↓regK_at, ↓blkK_nrm, ↓blkK_exit, ↓blkK_ret, ↓condC_true, ↓condC_false, ↓guardC_bool, ↓guardC_tup, ↓r_skip, ↓r_seq, ↓r_reg, ↓r_cond, ↓r_block, ↓r_loop, ↓r_exit, ↓r_ret, ↓a_nrm, ↓a_exit, ↓a_ret, ↓o_nil, ↓o_cons, ↓s_plain, ↓s_guard, e_none, e_set, e_newp, e_newr, e_app, e_obj, e_mk, K.run, Opd.get, setRowC_f, setRowC_t, AV.leaf, AV.whole, AV.cells, binC, mmC, eqC, natOf, loadC_f, loadC_t, loadI, Cl.okPtr, Cl.okMem, fillC, fin, finV, objAt, unname, resC, AV.free, AV.free0, AV.back, AV.backN, AV.isObj, AV.named, pack, lendAll, lend, objsOf, endC, AV.elems, Opd.an, zeroAn, elsOk_nil, elsOk_cons, elsOk_append, elsOk_map, elsOk_take, elsOk_drop, take_map_len, List.range_succ, List.range_zero, List.nil_append, List.cons_append, Opn.cv, Evt.cv, qA, qC, ht, h1, h2]
    | cons x l =>
      have h2 := rpop_cons (ext := queExt) h.rpop h.without b S x l hl (by omega)
      have e1 : S.pop = ({ S with l := l, clock := x.at_ }, x, true) := by simp [Que.pop, hl]
      simp only [e1] at h1 ⊢
      refine ⟨false, ?_⟩
      simp only [Evt.cv, qA, qC] at h1 h2
      refine evC_intro c12 h.step rfl ?_
      simp [c12, frz_free, frz_map, AV.frz, AV.frz0, kill_free, kill_map, AV.kill, AV.kill0, killE_at, killM_at, Slot.kill_v, Slot.kill_a, Slot.kill_mk, m_kill, m_kill0, e_rn, -Option.bind_some, ↓bind_some2, putE_at, setM_at, setO_at, stripE_at, stripM_at, Slot.strip_v, Slot.strip_a, Slot.strip_mk, An.strip, argE_at, noM_at, objE_at, m_init, m_put, m_put0, m_row, m_obj, m_strip, m_stripA, m_stripX, ↓seqK_nrm, ↓seqK_exit, ↓seqK_ret, ↓regK_at, ↓blkK_nrm, ↓blkK_exit, ↓blkK_ret, ↓condC_true, ↓condC_false, ↓guardC_bool, ↓guardC_tup, ↓r_skip, ↓r_seq, ↓r_reg, ↓r_cond, ↓r_block, ↓r_loop, ↓r_exit, ↓r_ret, ↓a_nrm, ↓a_exit, ↓a_ret, ↓o_nil, ↓o_cons, ↓s_plain, ↓s_guard, e_none, e_set, e_newp, e_newr, e_app, e_obj, e_mk, K.run, Opd.get, setRowC_f, setRowC_t, AV.leaf, AV.whole, AV.cells, binC, mmC, eqC, natOf, loadC_f, loadC_t, loadI, Cl.okPtr, Cl.okMem, fillC, fin, finV, objAt, unname, resC, AV.free, AV.free0, AV.back, AV.backN, AV.isObj, AV.named, pack, lendAll, lend, objsOf, endC, AV.elems, Opd.an, zeroAn, elsOk_nil, elsOk_cons, elsOk_append, elsOk_map, elsOk_take, elsOk_drop, take_map_len, List.range_succ, List.range_zero, List.nil_append, List.cons_append, Opn.cv, Evt.cv, qA, qC, ht, h1, h2]
  · have h1 := xpeek h.peek S (by omega)
    cases hl : S.l with
    | nil =>
      have h2 := rpop_nil (ext := queExt) h.rpop b S hl
      have e1 : S.peek = (zeroE, false) := by simp [Que.peek, hl]
      simp only [e1] at h1
      refine ⟨b, ?_⟩
      simp only [Evt.cv, qA, qC] at h1 h2
      refine evC_intro c12 h.step rfl ?_
      simp [c12, frz_free, frz_map, AV.frz, AV.frz0, kill_free, kill_map, AV.kill, AV.kill0, killE_at, killM_at, Slot.kill_v, Slot.kill_a, Slot.kill_mk, m_kill, m_kill0, e_rn, -Option.bind_some, ↓bind_some2, putE_at, setM_at, setO_at, stripE_at, stripM_at, Slot.strip_v, Slot.strip_a, Slot.strip_mk, An.strip, argE_at, noM_at, objE_at, m_init, m_put, m_put0, m_row, m_obj, m_strip, m_stripA, m_stripX, ↓seqK_nrm, ↓seqK_exit, ↓seqK_ret, ↓regK_at, ↓blkK_nrm, ↓blkK_exit, ↓blkK_ret, ↓condC_true, ↓condC_false, ↓guardC_bool, ↓guardC_tup, ↓r_skip, ↓r_seq, ↓r_reg, ↓r_cond, ↓r_block, ↓r_loop, ↓r_exit, ↓r_ret, ↓a_nrm, ↓a_exit, ↓a_ret, ↓o_nil, ↓o_cons, ↓s_plain, ↓s_guard, e_none, e_set, e_newp, e_newr, e_app, e_obj, e_mk, K.run, Opd.get, setRowC_f, setRowC_t, AV.leaf, AV.whole, AV.cells, binC, mmC, eqC, natOf, loadC_f, loadC_t, loadI, Cl.okPtr, Cl.okMem, fillC, fin, finV, objAt, unname, resC, AV.free, AV.free0, AV.back, AV.backN, AV.isObj, AV.named, pack, lendAll, lend, objsOf, endC, AV.elems, Opd.an, zeroAn, elsOk_nil, elsOk_cons, elsOk_append, elsOk_map, elsOk_take, elsOk_drop, take_map_len, List.range_succ, List.range_zero, List.nil_append, List.cons_append, Opn.cv, Evt.cv, qA, qC, ht, h1, h2]
    | cons x l =>
      have h2 := rpop_cons (ext := queExt) h.rpop h.without b S x l hl (by omega)
      have e1 : S.peek = (x, true) := by simp [Que.peek, hl]
      simp only [e1] at h1
      refine ⟨b, ?_⟩
      simp only [Evt.cv, qA, qC] at h1 h2
      refine evC_intro c12 h.step rfl ?_
      simp [c12, frz_free, frz_map, AV.frz, AV.frz0, kill_free, kill_map, AV.kill, AV.kill0, killE_at, killM_at, Slot.kill_v, Slot.kill_a, Slot.kill_mk, m_kill, m_kill0, e_rn, -Option.bind_some, ↓bind_some2, putE_at, setM_at, setO_at, stripE_at, stripM_at, Slot.strip_v, Slot.strip_a, Slot.strip_mk, An.strip, argE_at, noM_at, objE_at, m_init, m_put, m_put0, m_row, m_obj, m_strip, m_stripA, m_stripX, ↓seqK_nrm, ↓seqK_exit, ↓seqK_ret, ↓regK_at, ↓blkK_nrm, ↓blkK_exit, ↓blkK_ret, ↓condC_true, ↓condC_false, ↓guardC_bool, ↓guardC_tup, ↓r_skip, ↓r_seq, ↓r_reg, ↓r_cond, ↓r_block, ↓r_loop, ↓r_exit, ↓r_ret, ↓a_nrm, ↓a_exit, ↓a_ret, ↓o_nil, ↓o_cons, ↓s_plain, ↓s_guard, e_none, e_set, e_newp, e_newr, e_app, e_obj, e_mk, K.run, Opd.get, setRowC_f, setRowC_t, AV.leaf, AV.whole, AV.cells, binC, mmC, eqC, natOf, loadC_f, loadC_t, loadI, Cl.okPtr, Cl.okMem, fillC, fin, finV, objAt, unname, resC, AV.free, AV.free0, AV.back, AV.backN, AV.isObj, AV.named, pack, lendAll, lend, objsOf, endC, AV.elems, Opd.an, zeroAn, elsOk_nil, elsOk_cons, elsOk_append, elsOk_map, elsOk_take, elsOk_drop, take_map_len, List.range_succ, List.range_zero, List.nil_append, List.cons_append, Opn.cv, Evt.cv, qA, qC, ht, h1, h2]
  · have h1 := xcancel h.cancel S (by omega) e.seq
    have h2 := rcancel_ev (ext := queExt) h.rcancel h.without b S e.seq (by omega)
    generalize (if (S.cancel e.seq).2 = true then false else b) = b' at h2
    refine ⟨b', ?_⟩
    simp only [qA, qC] at h2
    refine evC_intro c12 h.step rfl ?_
    simp [c12, frz_free, frz_map, AV.frz, AV.frz0, kill_free, kill_map, AV.kill, AV.kill0, killE_at, killM_at, Slot.kill_v, Slot.kill_a, Slot.kill_mk, m_kill, m_kill0, e_rn, -Option.bind_some, ↓bind_some2, putE_at, setM_at, setO_at, stripE_at, stripM_at, Slot.strip_v, Slot.strip_a, Slot.strip_mk, An.strip, argE_at, noM_at, objE_at, m_init, m_put, m_put0, m_row, m_obj, m_strip, m_stripA, m_stripX, ↓seqK_nrm, ↓seqK_exit, ↓seqK_ret, ↓regK_at, ↓blkK_nrm, ↓blkK_exit, ↓blkK_ret, ↓condC_true, ↓condC_false, ↓guardC_bool, ↓guardC_tup, ↓r_skip, ↓r_seq, ↓r_reg, ↓r_cond, ↓r_block, ↓r_loop, ↓r_exit, ↓r_ret, ↓a_nrm, ↓a_exit, ↓a_ret, ↓o_nil, ↓o_cons, ↓s_plain, ↓s_guard, e_none, e_set, e_newp, e_newr, e_app, e_obj, e_mk, K.run, Opd.get, setRowC_f, setRowC_t, AV.leaf, AV.whole, AV.cells, binC, mmC, eqC, natOf, loadC_f, loadC_t, loadI, Cl.okPtr, Cl.okMem, fillC, fin, finV, objAt, unname, resC, AV.free, AV.free0, AV.back, AV.backN, AV.isObj, AV.named, pack, lendAll, lend, objsOf, endC, AV.elems, Opd.an, zeroAn, elsOk_nil, elsOk_cons, elsOk_append, elsOk_map, elsOk_take, elsOk_drop, take_map_len, List.range_succ, List.range_zero, List.nil_append, List.cons_append, Opn.cv, Evt.cv, qA, qC, ht, h1, h2]
  · have h1 := xuntil h.unt S (by omega) e.at_
    have h2 := runtil_ev (ext := queExt) h.runtil h.without b S e.at_ (by omega)
    have hlen2 : (S.until e.at_).2.length ≤ 9223372036854775807 := by
      have := (List.takeWhile_sublist (fun x => decide (x.at_ ≤ e.at_)) (l := S.l)).length_le
      show (S.l.takeWhile _).length ≤ _
      omega
    generalize (S.until e.at_).2 = R at *
    have h3 := rsame_ev (ext := queExt) h.rsame false R.isEmpty R R hlen2
    generalize (b && R.isEmpty) = b' at h2
    generalize R.isEmpty = b2 at h2 h3
    refine ⟨b', ?_⟩
    simp only [qA, qC] at h2
    refine evC_intro c12 h.step rfl ?_
    simp [c12, frz_free, frz_map, AV.frz, AV.frz0, kill_free, kill_map, AV.kill, AV.kill0, killE_at, killM_at, Slot.kill_v, Slot.kill_a, Slot.kill_mk, m_kill, m_kill0, e_rn, -Option.bind_some, ↓bind_some2, putE_at, setM_at, setO_at, stripE_at, stripM_at, Slot.strip_v, Slot.strip_a, Slot.strip_mk, An.strip, argE_at, noM_at, objE_at, m_init, m_put, m_put0, m_row, m_obj, m_strip, m_stripA, m_stripX, ↓seqK_nrm, ↓seqK_exit, ↓seqK_ret, ↓regK_at, ↓blkK_nrm, ↓blkK_exit, ↓blkK_ret, ↓condC_true, ↓condC_false, ↓guardC_bool, ↓guardC_tup, ↓r_skip, ↓r_seq, ↓r_reg, ↓r_cond, ↓r_block, ↓r_loop, ↓r_exit, ↓r_ret, ↓a_nrm, ↓a_exit, ↓a_ret, ↓o_nil, ↓o_cons, ↓s_plain, ↓s_guard, e_none, e_set, e_newp, e_newr, e_app, e_obj, e_mk, K.run, Opd.get, setRowC_f, setRowC_t, AV.leaf, AV.whole, AV.cells, binC, mmC, eqC, natOf, loadC_f, loadC_t, loadI, Cl.okPtr, Cl.okMem, fillC, fin, finV, objAt, unname, resC, AV.free, AV.free0, AV.back, AV.backN, AV.isObj, AV.named, pack, lendAll, lend, objsOf, endC, AV.elems, Opd.an, zeroAn, elsOk_nil, elsOk_cons, elsOk_append, elsOk_map, elsOk_take, elsOk_drop, take_map_len, List.range_succ, List.range_zero, List.nil_append, List.cons_append, Opn.cv, Evt.cv, qA, qC, ht, h1, h2, h3]
end
end Go.Proofs.Ytbpbeogipgfjiaa
/- The document's examples, and a queue behind operations, on the machine. -/
namespace Go.Proofs.Ytbpbeogipgfjiaa
open Go Go.RowKit
def c14_1 : C := .seq (.reg [⟨(.some 11), (.bin .lss .false (.t 10) (.t 9)), .none⟩]) (.seq (.cond (.t 11) .skip (.exit 0)) (.seq (.block 1 (.seq (.reg [⟨(.some 12), (.iaddr 6 (.t 8) (.t 10)), .none⟩, ⟨(.some 13), (.load .any .true 6 (.t 12)), .none⟩, ⟨(.some 6), (.alloc [(.int .u8 0), (.int .i64 0), (.int .i64 0), (.int .i64 0), (.int .i64 0), (.int .i64 0)]), .none⟩, ⟨.none, (.store .any .true 6 (.t 6) (.t 13)), .none⟩]) (.reg [⟨(.some 15), (.mv (.t 3)), .none⟩, ⟨(.some 16), (.load .any .true 3 (.t 4)), .none⟩, ⟨(.some 17), (.load .any .true 6 (.t 6)), .none⟩, ⟨(.some 18), (.call .any 12 [(.t 15), (.t 16), (.t 17)]), .none⟩, ⟨(.some 14), (.mv (.t 18)), .none⟩, ⟨(.some 19), (.ext (.t 14) 0), .none⟩, ⟨(.some 20), (.ext (.t 14) 1), .none⟩, ⟨.none, (.store .any .true 3 (.t 4) (.t 19)), .none⟩]))) (.reg [⟨(.some 21), (.bin .add .false (.t 10) (.c (.int .i64 1))), .none⟩, ⟨(.some 10), (.mv (.t 21)), .none⟩])))
def c14 : FnC := ⟨(.seq (.reg [⟨(.some 2), (.mv (.c .nilP)), .none⟩]) (.seq (.reg [⟨(.some 7), (.call .any 11 []), .none⟩, ⟨(.some 3), (.mv (.t 7)), .none⟩]) (.seq (.reg [⟨(.some 4), (.alloc [(.sl .true []), (.int .i64 0), (.int .i64 0)]), .none⟩]) (.seq (.seq (.reg [⟨(.some 8), (.mv (.t 0)), .none⟩, ⟨(.some 9), (.len .false (.t 8)), .none⟩, ⟨(.some 10), (.mv (.c (.int .i64 0))), .none⟩]) (.block 0 (.loop c14_1))) (.seq (.reg [⟨(.some 22), (.mv (.t 3)), .none⟩, ⟨(.some 2), (.mv (.t 22)), .none⟩]) .ret))))), [(.tmp 2)], 1, []⟩
set_option maxRecDepth 10000
set_option maxHeartbeats 4000000
set_option linter.unusedSimpArgs false
section
variable {T : Nat → Option FnC}
theorem qawake_ev (h : Tbl T) : evC T queExt 10 [] none = some (.bool true, none) := by
  have p1 := xpush h.push ⟨0, 0, []⟩ (by decide) 5 1 0 0
  have p2 := xpush h.push ⟨0, 1, [⟨5, 1, 1, 0, 0⟩]⟩ (by decide) 3 2 0 0
  have p3 := xpush h.push ⟨0, 2, [⟨3, 2, 2, 0, 0⟩, ⟨5, 1, 1, 0, 0⟩]⟩ (by decide) 5 3 0 0
  have p4 := xpop h.pop ⟨0, 3, [⟨3, 2, 2, 0, 0⟩, ⟨5, 1, 1, 0, 0⟩, ⟨5, 3, 3, 0, 0⟩]⟩ (by decide)
  have p5 := xnow h.now ⟨3, 3, [⟨5, 1, 1, 0, 0⟩, ⟨5, 3, 3, 0, 0⟩]⟩
  have p6 := xpush h.push ⟨3, 3, [⟨5, 1, 1, 0, 0⟩, ⟨5, 3, 3, 0, 0⟩]⟩ (by decide) 2 4 0 0
  have p7 := xcancel h.cancel ⟨3, 3, [⟨5, 1, 1, 0, 0⟩, ⟨5, 3, 3, 0, 0⟩]⟩ (by decide) 1
  have p8 := xcancel h.cancel ⟨3, 3, [⟨5, 3, 3, 0, 0⟩]⟩ (by decide) 1
  have p9 := xuntil h.unt ⟨3, 3, [⟨5, 3, 3, 0, 0⟩]⟩ (by decide) 9
  have p10 := xnow h.now ⟨9, 3, []⟩
  have e1 : Que.push ⟨0, 0, []⟩ 5 1 0 0 = (⟨0, 1, [⟨5, 1, 1, 0, 0⟩]⟩, 1, 0) := rfl
  have e2 : Que.push ⟨0, 1, [⟨5, 1, 1, 0, 0⟩]⟩ 3 2 0 0 = (⟨0, 2, [⟨3, 2, 2, 0, 0⟩, ⟨5, 1, 1, 0, 0⟩]⟩, 2, 0) := rfl
  have e3 : Que.push ⟨0, 2, [⟨3, 2, 2, 0, 0⟩, ⟨5, 1, 1, 0, 0⟩]⟩ 5 3 0 0 = (⟨0, 3, [⟨3, 2, 2, 0, 0⟩, ⟨5, 1, 1, 0, 0⟩, ⟨5, 3, 3, 0, 0⟩]⟩, 3, 0) := rfl
  have e4 : Que.pop ⟨0, 3, [⟨3, 2, 2, 0, 0⟩, ⟨5, 1, 1, 0, 0⟩, ⟨5, 3, 3, 0, 0⟩]⟩ = (⟨3, 3, [⟨5, 1, 1, 0, 0⟩, ⟨5, 3, 3, 0, 0⟩]⟩, ⟨3, 2, 2, 0, 0⟩, true) := rfl
  have e6 : Que.push ⟨3, 3, [⟨5, 1, 1, 0, 0⟩, ⟨5, 3, 3, 0, 0⟩]⟩ 2 4 0 0 = (⟨3, 3, [⟨5, 1, 1, 0, 0⟩, ⟨5, 3, 3, 0, 0⟩]⟩, 0, 7) := rfl
  have e7 : Que.cancel ⟨3, 3, [⟨5, 1, 1, 0, 0⟩, ⟨5, 3, 3, 0, 0⟩]⟩ 1 = (⟨3, 3, [⟨5, 3, 3, 0, 0⟩]⟩, true) := rfl
  have e8 : Que.cancel ⟨3, 3, [⟨5, 3, 3, 0, 0⟩]⟩ 1 = (⟨3, 3, [⟨5, 3, 3, 0, 0⟩]⟩, false) := rfl
  have e9 : Que.until ⟨3, 3, [⟨5, 3, 3, 0, 0⟩]⟩ 9 = (⟨9, 3, []⟩, [⟨5, 3, 3, 0, 0⟩]) := rfl
  simp only [e1] at p1
  simp only [e2] at p2
  simp only [e3] at p3
  simp only [e4] at p4
  simp only [e6] at p6
  simp only [e7] at p7
  simp only [e8] at p8
  simp only [e9] at p9
  have p0 := xnew h.new
  have ps := rsame_ev (ext := queExt) h.rsame false false [⟨5, 3, 3, 0, 0⟩] [⟨5, 3, 3, 0, 0⟩] (by decide)
  simp only [List.map_cons, List.map_nil, Evt.cv, List.length_cons, List.length_nil] at p1 p2 p3 p4 p5 p6 p7 p8 p9 p10 ps
  generalize encQ ⟨0, 0, []⟩ = q0 at *
  generalize encQ ⟨0, 1, [⟨5, 1, 1, 0, 0⟩]⟩ = q1 at *
  generalize encQ ⟨0, 2, [⟨3, 2, 2, 0, 0⟩, ⟨5, 1, 1, 0, 0⟩]⟩ = q2 at *
  generalize encQ ⟨0, 3, [⟨3, 2, 2, 0, 0⟩, ⟨5, 1, 1, 0, 0⟩, ⟨5, 3, 3, 0, 0⟩]⟩ = q3 at *
  generalize encQ ⟨3, 3, [⟨5, 1, 1, 0, 0⟩, ⟨5, 3, 3, 0, 0⟩]⟩ = q4 at *
  generalize encQ ⟨3, 3, [⟨5, 3, 3, 0, 0⟩]⟩ = q5 at *
  generalize encQ ⟨9, 3, []⟩ = q6 at *
  simp at p1 p2 p3 p4 p5 p6 p7 p8 p9 p10 ps
  refine evC_intro c10 h.awake rfl ?_
  simp [c10, frz_free, frz_map, AV.frz, AV.frz0, kill_free, kill_map, AV.kill, AV.kill0, killE_at, killM_at, Slot.kill_v, Slot.kill_a, Slot.kill_mk, m_kill, m_kill0, e_rn, -Option.bind_some, ↓bind_some2, putE_at, setM_at, setO_at, stripE_at, stripM_at, Slot.strip_v, Slot.strip_a, Slot.strip_mk, An.strip, argE_at, noM_at, objE_at, m_init, m_put, m_put0, m_row, m_obj, m_strip, m_stripA, m_stripX, ↓seqK_nrm, ↓seqK_exit, ↓seqK_ret, ↓regK_at, ↓blkK_nrm, ↓blkK_exit, ↓blkK_ret, ↓condC_true, ↓condC_false, ↓guardC_bool, ↓guardC_tup, ↓r_skip, ↓r_seq, ↓r_reg, ↓r_cond, ↓r_block, ↓r_loop, ↓r_exit, ↓r_ret, ↓a_nrm, ↓a_exit, ↓a_ret, ↓o_nil, ↓o_cons, ↓s_plain, ↓s_guard, e_none, e_set, e_newp, e_newr, e_app, e_obj, e_mk, K.run, Opd.get, setRowC_f, setRowC_t, AV.leaf, AV.whole, AV.cells, binC, mmC, eqC, natOf, loadC_f, loadC_t, loadI, Cl.okPtr, Cl.okMem, fillC, fin, finV, objAt, unname, resC, AV.free, AV.free0, AV.back, AV.backN, AV.isObj, AV.named, pack, lendAll, lend, objsOf, endC, AV.elems, Opd.an, zeroAn, elsOk_nil, elsOk_cons, elsOk_append, elsOk_map, elsOk_take, elsOk_drop, take_map_len, List.range_succ, List.range_zero, List.nil_append, List.cons_append, isNil, p0, p1, p2, p3, p4, p5, p6, p7, p8, p9, p10, ps]
theorem els_opn (l : List Opn) : elsOk 6 (l.map Opn.cv) = true := elsOk_map _ _ _ fun _ => rfl
def Que.run (S : Que) : List Opn → Que
  | [] => S
  | o :: r => (S.step o).run r
theorem inv_run : ∀ (l : List Opn) {n : Nat} {S : Que}, S.Inv n → (S.run l).Inv (n + l.length)
  | [], n, S, h => h
  | o :: r, n, S, h => by
    have := inv_run r (h.step o)
    simp only [Que.run, List.length_cons]
    rwa [show n + 1 + r.length = n + (r.length + 1) from by omega] at this
theorem after_lp (h : Tbl T) (nl : Bool) (L : List Opn) (r : RV) (k : Ex → MSt → Option RV) (Sf : Que) (hok : ∀ o ∈ L, o.ok) (hL : L.length ≤ 40) (m4 n3 : Nat)
    (hk : ∀ (s : MSt), (s.env 3).v = .ptr 7 n3 0 → s.obj 7 n3 = some (encQ Sf) → k (.exit 0) s = some r) :
    ∀ (n i : Nat) (S : Que) (b : Bool) (a : An), i + n = L.length → S.Inv i → S.run (L.drop i) = Sf → ∀ s : MSt, (s.env 8).v = .sl nl (L.map Opn.cv) → (s.env 9).v = .int .i64 L.length → (s.env 10).v = .int .i64 i → (s.env 3).v = .ptr 7 n3 0 → s.obj 7 n3 = some (encQ S) → (s.env 4).v = .ptr 4 m4 0 → s.mem 4 m4 = some [⟨.sl b (S.l.map Evt.cv), a⟩, ⟨.int .i64 S.clock, .no⟩, ⟨.int .i64 S.last, .no⟩] → evL T queExt c14_1 s k = some r := by
  intro n
  induction n with
  | zero =>
    intro i S b a hi hI hS s e8 e9 e10 e3 ob e4 em4
    have hi' : i = L.length := by omega
    have hlt : ¬ ((i : Int) < L.length) := by omega
    refine evL_intro ?_
    rw [hi', List.drop_length] at hS
    simp only [Que.run] at hS
    subst hS
    simp [c14_1, frz_free, frz_map, AV.frz, AV.frz0, kill_free, kill_map, AV.kill, AV.kill0, killE_at, killM_at, Slot.kill_v, Slot.kill_a, Slot.kill_mk, m_kill, m_kill0, e_rn, -Option.bind_some, ↓bind_some2, putE_at, setM_at, setO_at, stripE_at, stripM_at, Slot.strip_v, Slot.strip_a, Slot.strip_mk, An.strip, argE_at, noM_at, objE_at, m_init, m_put, m_put0, m_row, m_obj, m_strip, m_stripA, m_stripX, ↓seqK_nrm, ↓seqK_exit, ↓seqK_ret, ↓regK_at, ↓blkK_nrm, ↓blkK_exit, ↓blkK_ret, ↓condC_true, ↓condC_false, ↓guardC_bool, ↓guardC_tup, ↓r_skip, ↓r_seq, ↓r_reg, ↓r_cond, ↓r_block, ↓r_loop, ↓r_exit, ↓r_ret, ↓a_nrm, ↓a_exit, ↓a_ret, ↓o_nil, ↓o_cons, ↓s_plain, ↓s_guard, e_none, e_set, e_newp, e_newr, e_app, e_obj, e_mk, K.run, Opd.get, setRowC_f, setRowC_t, AV.leaf, AV.whole, AV.cells, binC, mmC, eqC, natOf, loadC_f, loadC_t, loadI, Cl.okPtr, Cl.okMem, fillC, fin, finV, objAt, unname, resC, AV.free, AV.free0, AV.back, AV.backN, AV.isObj, AV.named, pack, lendAll, lend, objsOf, endC, AV.elems, Opd.an, zeroAn, elsOk_nil, elsOk_cons, elsOk_append, elsOk_map, elsOk_take, elsOk_drop, take_map_len, List.range_succ, List.range_zero, List.nil_append, List.cons_append, e8, e9, e10, hlt]
    refine hk _ ?_ ?_ <;> simp [*]
  | succ n ih =>
    intro i S b a hi hI hS s e8 e9 e10 e3 ob e4 em4
    have hlt : (i : Int) < L.length := by omega
    have hlt' : i < L.length := by omega
    rw [List.drop_eq_getElem_cons hlt'] at hS
    have hg : (L.map Opn.cv)[i]? = some (L[i]).cv := by simp [hlt']
    obtain ⟨b', hst⟩ := qstep_ev h (n := i) (by omega) b S hI L[i] (hok _ (List.getElem_mem _))
    have hw : IntKind.i64.wrap ((i : Int) + 1) = ((i + 1 : Nat) : Int) := by rw [IntWalk.i64_in _ (by omega)]; rfl
    refine evL_intro ?_
    have hS' : ((S.step L[i]).run (L.drop (i + 1))) = Sf := hS
    have hI' := hI.step L[i]
    generalize hSS : S.step L[i] = S' at *
    generalize hO : L[i] = o at *
    simp only [qA, qC, Opn.cv, Evt.cv] at hst hg
    simp [c14_1, frz_free, frz_map, AV.frz, AV.frz0, kill_free, kill_map, AV.kill, AV.kill0, killE_at, killM_at, Slot.kill_v, Slot.kill_a, Slot.kill_mk, m_kill, m_kill0, e_rn, -Option.bind_some, ↓bind_some2, putE_at, setM_at, setO_at, stripE_at, stripM_at, Slot.strip_v, Slot.strip_a, Slot.strip_mk, An.strip, argE_at, noM_at, objE_at, m_init, m_put, m_put0, m_row, m_obj, m_strip, m_stripA, m_stripX, ↓seqK_nrm, ↓seqK_exit, ↓seqK_ret, ↓regK_at, ↓blkK_nrm, ↓blkK_exit, ↓blkK_ret, ↓condC_true, ↓condC_false, ↓guardC_bool, ↓guardC_tup, ↓r_skip, ↓r_seq, ↓r_reg, ↓r_cond, ↓r_block, ↓r_loop, ↓r_exit, ↓r_ret, ↓a_nrm, ↓a_exit, ↓a_ret, ↓o_nil, ↓o_cons, ↓s_plain, ↓s_guard, e_none, e_set, e_newp, e_newr, e_app, e_obj, e_mk, K.run, Opd.get, setRowC_f, setRowC_t, AV.leaf, AV.whole, AV.cells, binC, mmC, eqC, natOf, loadC_f, loadC_t, loadI, Cl.okPtr, Cl.okMem, fillC, fin, finV, objAt, unname, resC, AV.free, AV.free0, AV.back, AV.backN, AV.isObj, AV.named, pack, lendAll, lend, objsOf, endC, AV.elems, Opd.an, zeroAn, elsOk_nil, elsOk_cons, elsOk_append, elsOk_map, elsOk_take, elsOk_drop, take_map_len, List.range_succ, List.range_zero, List.nil_append, List.cons_append, e8, e9, e10, hlt, hg, e3, ob, e4, em4, hst, hw]
    refine ih (i + 1) S' b' .no (by omega) hI' hS' _ ?_ ?_ ?_ ?_ ?_ ?_ ?_ <;> simp [*, qC]
theorem after_ev (h : Tbl T) (hT : T 14 = some c14) (nl : Bool) (L : List Opn) (hok : ∀ o ∈ L, o.ok) (hL : L.length ≤ 40) : evC T queExt 14 [.sl nl (L.map Opn.cv)] none = some (.ptr 0 0 0, some (encQ (Que.run ⟨0, 0, []⟩ L))) := by
  have hn := xnew h.new
  refine evC_intro c14 hT rfl ?_
  simp [c14, frz_free, frz_map, AV.frz, AV.frz0, kill_free, kill_map, AV.kill, AV.kill0, killE_at, killM_at, Slot.kill_v, Slot.kill_a, Slot.kill_mk, m_kill, m_kill0, e_rn, -Option.bind_some, ↓bind_some2, putE_at, setM_at, setO_at, stripE_at, stripM_at, Slot.strip_v, Slot.strip_a, Slot.strip_mk, An.strip, argE_at, noM_at, objE_at, m_init, m_put, m_put0, m_row, m_obj, m_strip, m_stripA, m_stripX, ↓seqK_nrm, ↓seqK_exit, ↓seqK_ret, ↓regK_at, ↓blkK_nrm, ↓blkK_exit, ↓blkK_ret, ↓condC_true, ↓condC_false, ↓guardC_bool, ↓guardC_tup, ↓r_skip, ↓r_seq, ↓r_reg, ↓r_cond, ↓r_block, ↓r_loop, ↓r_exit, ↓r_ret, ↓a_nrm, ↓a_exit, ↓a_ret, ↓o_nil, ↓o_cons, ↓s_plain, ↓s_guard, e_none, e_set, e_newp, e_newr, e_app, e_obj, e_mk, K.run, Opd.get, setRowC_f, setRowC_t, AV.leaf, AV.whole, AV.cells, binC, mmC, eqC, natOf, loadC_f, loadC_t, loadI, Cl.okPtr, Cl.okMem, fillC, fin, finV, objAt, unname, resC, AV.free, AV.free0, AV.back, AV.backN, AV.isObj, AV.named, pack, lendAll, lend, objsOf, endC, AV.elems, Opd.an, zeroAn, elsOk_nil, elsOk_cons, elsOk_append, elsOk_map, elsOk_take, elsOk_drop, take_map_len, List.range_succ, List.range_zero, List.nil_append, List.cons_append, hn]
  refine after_lp h nl L _ _ _ hok hL 3 2 (fun s e3 ob => ?main) L.length 0 ⟨0, 0, []⟩ true .ex (by simp) inv_new rfl _ ?_ ?_ ?_ ?_ ?_ ?_ ?_
  case main => simp [frz_free, frz_map, AV.frz, AV.frz0, kill_free, kill_map, AV.kill, AV.kill0, killE_at, killM_at, Slot.kill_v, Slot.kill_a, Slot.kill_mk, m_kill, m_kill0, e_rn, -Option.bind_some, ↓bind_some2, putE_at, setM_at, setO_at, stripE_at, stripM_at, Slot.strip_v, Slot.strip_a, Slot.strip_mk, An.strip, argE_at, noM_at, objE_at, m_init, m_put, m_put0, m_row, m_obj, m_strip, m_stripA, m_stripX, ↓seqK_nrm, ↓seqK_exit, ↓seqK_ret, ↓regK_at, ↓blkK_nrm, ↓blkK_exit, ↓blkK_ret, ↓condC_true, ↓condC_false, ↓guardC_bool, ↓guardC_tup, ↓r_skip, ↓r_seq, ↓r_reg, ↓r_cond, ↓r_block, ↓r_loop, ↓r_exit, ↓r_ret, ↓a_nrm, ↓a_exit, ↓a_ret, ↓o_nil, ↓o_cons, ↓s_plain, ↓s_guard, e_none, e_set, e_newp, e_newr, e_app, e_obj, e_mk, K.run, Opd.get, setRowC_f, setRowC_t, AV.leaf, AV.whole, AV.cells, binC, mmC, eqC, natOf, loadC_f, loadC_t, loadI, Cl.okPtr, Cl.okMem, fillC, fin, finV, objAt, unname, resC, AV.free, AV.free0, AV.back, AV.backN, AV.isObj, AV.named, pack, lendAll, lend, objsOf, endC, AV.elems, Opd.an, zeroAn, elsOk_nil, elsOk_cons, elsOk_append, elsOk_map, elsOk_take, elsOk_drop, take_map_len, List.range_succ, List.range_zero, List.nil_append, List.cons_append, e3, ob]
  all_goals simp [frz_free, frz_map, AV.frz, AV.frz0, kill_free, kill_map, AV.kill, AV.kill0, killE_at, killM_at, Slot.kill_v, Slot.kill_a, Slot.kill_mk, m_kill, m_kill0, e_rn, -Option.bind_some, ↓bind_some2, putE_at, setM_at, setO_at, stripE_at, stripM_at, Slot.strip_v, Slot.strip_a, Slot.strip_mk, An.strip, argE_at, noM_at, objE_at, m_init, m_put, m_put0, m_row, m_obj, m_strip, m_stripA, m_stripX, ↓seqK_nrm, ↓seqK_exit, ↓seqK_ret, ↓regK_at, ↓blkK_nrm, ↓blkK_exit, ↓blkK_ret, ↓condC_true, ↓condC_false, ↓guardC_bool, ↓guardC_tup, ↓r_skip, ↓r_seq, ↓r_reg, ↓r_cond, ↓r_block, ↓r_loop, ↓r_exit, ↓r_ret, ↓a_nrm, ↓a_exit, ↓a_ret, ↓o_nil, ↓o_cons, ↓s_plain, ↓s_guard, e_none, e_set, e_newp, e_newr, e_app, e_obj, e_mk, K.run, Opd.get, setRowC_f, setRowC_t, AV.leaf, AV.whole, AV.cells, binC, mmC, eqC, natOf, loadC_f, loadC_t, loadI, Cl.okPtr, Cl.okMem, fillC, fin, finV, objAt, unname, resC, AV.free, AV.free0, AV.back, AV.backN, AV.isObj, AV.named, pack, lendAll, lend, objsOf, endC, AV.elems, Opd.an, zeroAn, elsOk_nil, elsOk_cons, elsOk_append, elsOk_map, elsOk_take, elsOk_drop, take_map_len, List.range_succ, List.range_zero, List.nil_append, List.cons_append, *, qC]
end
end Go.Proofs.Ytbpbeogipgfjiaa
/- The functions that the machine runs, and what the rows' arguments read as. -/
namespace Go.Proofs.Ytbpbeogipgfjiaa
open Go Go.RowKit Go.ChangeShapes Go.WideShapes Go.ChangeAt
def baseT : Nat → Option FnC := fun f => if f = 12 then some c12 else if f = 10 then some c10 else if f = 14 then some c14 else if f = 21 then some c21 else if f = 22 then some c22 else if f = 23 then some c23
  else if f = 24 then some c24 else if f = 18 then some c18 else if f = 34 then some c34 else if f = 35 then some c35 else none
theorem ok12 : FnOk Try.prog 12 c12 := ⟨fun xs w => by kernel_rfl, _, Try.func12, by kernel_rfl⟩
theorem ok10 : FnOk Try.prog 10 c10 := ⟨fun xs w => by kernel_rfl, _, Try.func10, by kernel_rfl⟩
theorem ok14 : FnOk Try.prog 14 c14 := ⟨fun xs w => by kernel_rfl, _, Try.func14, by kernel_rfl⟩
theorem ok21 : FnOk Try.prog 21 c21 := ⟨fun xs w => by kernel_rfl, _, Try.func21, by kernel_rfl⟩
theorem ok22 : FnOk Try.prog 22 c22 := ⟨fun xs w => by kernel_rfl, _, Try.func22, by kernel_rfl⟩
theorem ok23 : FnOk Try.prog 23 c23 := ⟨fun xs w => by kernel_rfl, _, Try.func23, by kernel_rfl⟩
theorem ok24 : FnOk Try.prog 24 c24 := ⟨fun xs w => by kernel_rfl, _, Try.func24, by kernel_rfl⟩
theorem ok18 : FnOk Try.prog 18 c18 := ⟨fun xs w => by kernel_rfl, _, Try.func18, by kernel_rfl⟩
theorem ok34 : FnOk Try.prog 34 c34 := ⟨fun xs w => by kernel_rfl, _, Try.func34, by kernel_rfl⟩
theorem ok35 : FnOk Try.prog 35 c35 := ⟨fun xs w => by kernel_rfl, _, Try.func35, by kernel_rfl⟩
theorem baseT_ok (f : Nat) (c : FnC) (h : baseT f = some c) : FnOk Try.prog f c :=
  fn_step h ok12 fun h => fn_step h ok10 fun h => fn_step h ok14 fun h => fn_step h ok21 fun h => fn_step h ok22 fun h => fn_step h ok23 fun h => fn_step h ok24 fun h => fn_step h ok18 fun h => fn_step h ok34 fun h => fn_step h ok35 fun h => by cases h
/-- with the law's own -/
def lawT (g : Nat) (d : FnC) : Nat → Option FnC := fun f => if f = g then some d else baseT f
theorem lawT_ok {g : Nat} {d : FnC} (hd : FnOk Try.prog g d) (f : Nat) (c : FnC) (h : lawT g d f = some c) : FnOk Try.prog f c := fn_step h hd (baseT_ok f c)
def opSh : List Cs := [.int .u8, .int .i64, .int .i64, .int .i64, .int .i64, .int .i64]
theorem opTy {xs : List AV} (h : TyL opSh xs) : ∃ o : Opn, xs = o.cv ∧ o.ok := by
  simp only [opSh, TyL, TyC] at h
  obtain ⟨_, _, rfl, ⟨k, rfl, hk⟩, _, _, rfl, ⟨a, rfl, _⟩, _, _, rfl, ⟨b, rfl, _⟩, _, _, rfl, ⟨c, rfl, _⟩, _, _, rfl, ⟨d, rfl, _⟩, _, _, rfl, ⟨e, rfl, _⟩, rfl⟩ := h
  simp only [Lit.wf, Bool.and_eq_true, decide_eq_true_eq] at hk
  have h1 : IntKind.u8.min = 0 := rfl
  have h2 : IntKind.u8.max = 255 := rfl
  exact ⟨⟨k, ⟨a, b, c, d, e⟩⟩, rfl, by show 0 ≤ k; omega, by show k ≤ 255; omega⟩
theorem opsTy {a : AV} (h : ParTy Try.prog 4 22 a) : ∃ nl, ∃ L : List Opn, a = .sl nl (L.map Opn.cv) ∧ L.length ≤ 9223372036854775807 ∧ ∀ o ∈ L, o.ok := by
  obtain ⟨sh, hs, h⟩ := h
  have hs' : shOf Try.prog 4 22 = some [.sl opSh] := by kernel_rfl
  rw [hs'] at hs
  injection hs with hs
  subst hs
  rcases h with ⟨hw, _⟩ | ⟨_, h⟩
  · have hw' : wholeT Try.prog 22 = false := by kernel_rfl
    rw [hw'] at hw
    cases hw
  · simp only [TyL, TyC] at h
    obtain ⟨a, r, e, ⟨nl, els, rfl, hle, hk⟩, _⟩ := h
    injection e with e _
    have : ∀ els : List (List AV), (∀ x ∈ els, TyL opSh x) → ∃ L : List Opn, els = L.map Opn.cv ∧ ∀ o ∈ L, o.ok := fun els => by
      induction els with
      | nil => exact fun _ => ⟨[], rfl, fun _ h => by cases h⟩
      | cons x r ih =>
        intro h
        obtain ⟨o, rfl, ho⟩ := opTy (h x List.mem_cons_self)
        obtain ⟨L, rfl, hL⟩ := ih fun y hy => h y (List.mem_cons_of_mem _ hy)
        exact ⟨o :: L, rfl, fun p hp => by
          rcases List.mem_cons.1 hp with rfl | hp
          · exact ho
          · exact hL p hp⟩
    obtain ⟨L, rfl, hL⟩ := this els hk
    refine ⟨nl, L, e, ?_, hL⟩
    have : maxLen = 9223372036854775807 := rfl
    simpa [this] using hle
theorem i64Ty {a : AV} (h : ParTy Try.prog 4 2 a) : ∃ k, a = .int .i64 k ∧ IntKind.i64.wrap k = k := by
  obtain ⟨sh, hs, h⟩ := h
  have hs' : shOf Try.prog 4 2 = some [.int .i64] := by kernel_rfl
  rw [hs'] at hs
  injection hs with hs
  subst hs
  rcases h with ⟨hw, _⟩ | ⟨_, h⟩
  · have hw' : wholeT Try.prog 2 = false := by kernel_rfl
    rw [hw'] at hw
    cases hw
  · simp only [TyL, TyC] at h
    obtain ⟨a, r, e, ⟨k, rfl, hk⟩, _⟩ := h
    injection e with e _
    simp only [Lit.wf, Bool.and_eq_true, decide_eq_true_eq] at hk
    have h1 : IntKind.i64.min = -9223372036854775808 := rfl
    have h2 : IntKind.i64.max = 9223372036854775807 := rfl
    exact ⟨k, e, IntWalk.i64_in _ (by omega)⟩
end Go.Proofs.Ytbpbeogipgfjiaa
/- EventsPeek on the machine. -/
namespace Go.Proofs.Ytbpbeogipgfjiaa
open Go Go.RowKit
def c9 : FnC := ⟨(.seq (.reg [⟨(.some 2), (.mv (.c (.bool .false))), .none⟩]) (.seq (.seq (.reg [⟨(.some 14), (.call .any 10 []), .none⟩, ⟨(.some 15), (.un .not (.t 14)), .none⟩, ⟨(.some 16), (.mv (.t 15)), .none⟩, ⟨(.some 17), (.mv (.t 0)), (.some (16, .false))⟩, ⟨(.some 18), (.len .false (.t 17)), (.some (16, .false))⟩, ⟨(.some 19), (.bin .gtr .false (.t 18) (.c (.int .i64 40))), (.some (16, .false))⟩, ⟨(.some 20), (.pick (.t 16) (.c (.bool .true)) (.t 19)), .none⟩]) (.cond (.t 20) (.seq (.reg [⟨(.some 21), (.call .any 10 []), .none⟩, ⟨(.some 2), (.mv (.t 21)), .none⟩]) .ret) .skip)) (.seq (.reg [⟨(.some 22), (.mv (.t 0)), .none⟩, ⟨(.some 23), (.call .any 14 [(.t 22)]), .none⟩, ⟨(.some 3), (.mv (.t 23)), .none⟩]) (.seq (.reg [⟨(.some 25), (.mv (.t 3)), .none⟩, ⟨(.some 26), (.call .any 13 [(.t 25)]), .none⟩, ⟨(.some 24), (.mv (.t 26)), .none⟩, ⟨(.some 27), (.ext (.t 24) 0), .none⟩, ⟨(.some 28), (.ext (.t 24) 1), .none⟩, ⟨(.some 4), (.mv (.t 27)), .none⟩, ⟨(.some 5), (.mv (.t 28)), .none⟩]) (.seq (.reg [⟨(.some 30), (.mv (.t 3)), .none⟩, ⟨(.some 31), (.call .any 16 [(.t 30)]), .none⟩, ⟨(.some 29), (.mv (.t 31)), .none⟩, ⟨(.some 32), (.ext (.t 29) 0), .none⟩, ⟨(.some 33), (.ext (.t 29) 1), .none⟩, ⟨(.some 6), (.alloc [(.int .i64 0), (.int .i64 0), (.int .i64 0), (.int .i64 0), (.int .i64 0)]), .none⟩, ⟨.none, (.store .any .true 5 (.t 6) (.t 32)), .none⟩, ⟨(.some 7), (.mv (.t 33)), .none⟩]) (.seq (.reg [⟨(.some 35), (.mv (.t 3)), .none⟩, ⟨(.some 36), (.call .any 16 [(.t 35)]), .none⟩, ⟨(.some 34), (.mv (.t 36)), .none⟩, ⟨(.some 37), (.ext (.t 34) 0), .none⟩, ⟨(.some 38), (.ext (.t 34) 1), .none⟩, ⟨(.some 8), (.alloc [(.int .i64 0), (.int .i64 0), (.int .i64 0), (.int .i64 0), (.int .i64 0)]), .none⟩, ⟨.none, (.store .any .true 5 (.t 8) (.t 37)), .none⟩, ⟨(.some 9), (.mv (.t 38)), .none⟩]) (.seq (.reg [⟨(.some 40), (.mv (.t 3)), .none⟩, ⟨(.some 41), (.call .any 13 [(.t 40)]), .none⟩, ⟨(.some 39), (.mv (.t 41)), .none⟩, ⟨(.some 42), (.ext (.t 39) 0), .none⟩, ⟨(.some 43), (.ext (.t 39) 1), .none⟩, ⟨(.some 10), (.mv (.t 42)), .none⟩, ⟨(.some 11), (.mv (.t 43)), .none⟩]) (.seq (.reg [⟨(.some 45), (.mv (.t 3)), .none⟩, ⟨(.some 46), (.call .any 15 [(.t 45)]), .none⟩, ⟨(.some 44), (.mv (.t 46)), .none⟩, ⟨(.some 47), (.ext (.t 44) 0), .none⟩, ⟨(.some 48), (.ext (.t 44) 1), .none⟩, ⟨(.some 12), (.alloc [(.int .i64 0), (.int .i64 0), (.int .i64 0), (.int .i64 0), (.int .i64 0)]), .none⟩, ⟨.none, (.store .any .true 5 (.t 12) (.t 47)), .none⟩, ⟨(.some 13), (.mv (.t 48)), .none⟩]) (.seq (.reg [⟨(.some 49), (.load .any .true 5 (.t 6)), .none⟩, ⟨(.some 50), (.load .any .true 5 (.t 8)), .none⟩, ⟨(.some 51), (.eqa .false [0, 0, 0, 0, 0] (.t 49) (.t 50)), .none⟩, ⟨(.some 52), (.mv (.t 51)), .none⟩, ⟨(.some 53), (.mv (.t 7)), (.some (52, .true))⟩, ⟨(.some 54), (.mv (.t 9)), (.some (52, .true))⟩, ⟨(.some 55), (.bin .eql .true (.t 53) (.t 54)), (.some (52, .true))⟩, ⟨(.some 56), (.pick (.t 52) (.t 55) (.c (.bool .false))), .none⟩, ⟨(.some 57), (.mv (.t 56)), .none⟩, ⟨(.some 58), (.mv (.t 4)), (.some (57, .true))⟩, ⟨(.some 59), (.mv (.t 10)), (.some (57, .true))⟩, ⟨(.some 60), (.bin .eql .false (.t 58) (.t 59)), (.some (57, .true))⟩, ⟨(.some 61), (.pick (.t 57) (.t 60) (.c (.bool .false))), .none⟩, ⟨(.some 62), (.mv (.t 61)), .none⟩, ⟨(.some 63), (.mv (.t 5)), (.some (62, .true))⟩, ⟨(.some 64), (.mv (.t 11)), (.some (62, .true))⟩, ⟨(.some 65), (.bin .eql .false (.t 63) (.t 64)), (.some (62, .true))⟩, ⟨(.some 66), (.pick (.t 62) (.t 65) (.c (.bool .false))), .none⟩, ⟨(.some 67), (.mv (.t 66)), .none⟩, ⟨(.some 68), (.load .any .true 5 (.t 6)), (.some (67, .true))⟩, ⟨(.some 69), (.load .any .true 5 (.t 12)), (.some (67, .true))⟩, ⟨(.some 70), (.eqa .false [0, 0, 0, 0, 0] (.t 68) (.t 69)), (.some (67, .true))⟩, ⟨(.some 71), (.pick (.t 67) (.t 70) (.c (.bool .false))), .none⟩, ⟨(.some 72), (.mv (.t 71)), .none⟩, ⟨(.some 73), (.mv (.t 7)), (.some (72, .true))⟩, ⟨(.some 74), (.mv (.t 13)), (.some (72, .true))⟩, ⟨(.some 75), (.bin .eql .true (.t 73) (.t 74)), (.some (72, .true))⟩, ⟨(.some 76), (.pick (.t 72) (.t 75) (.c (.bool .false))), .none⟩, ⟨(.some 2), (.mv (.t 76)), .none⟩]) .ret))))))))), [(.tmp 2)], 1, []⟩
set_option maxRecDepth 10000
set_option maxHeartbeats 4000000
set_option linter.unusedSimpArgs false
theorem run_len (L : List Opn) (h : L.length ≤ 40) : (Que.run ⟨0, 0, []⟩ L).Inv 40 := (inv_run L inv_new).more (by omega)
theorem peek_pop (S : Que) : S.peek = S.pop.2 := by
  obtain ⟨c, m, l⟩ := S
  cases l <;> rfl
section
variable {T : Nat → Option FnC}
theorem peeklaw_ev (h : Tbl T) (hT : T 9 = some c9) (h14 : T 14 = some c14) (nl : Bool) (L : List Opn) (hok : ∀ o ∈ L, o.ok) : evC T queExt 9 [.sl nl (L.map Opn.cv)] none = some (.bool true, none) := by
  have ha := qawake_ev h
  refine evC_intro c9 hT rfl ?_
  by_cases hL : L.length ≤ 40
  · have hgt : ¬ (40 : Int) < L.length := by omega
    have haf := after_ev h h14 nl L hok hL
    have hI := run_len L hL
    generalize Que.run ⟨0, 0, []⟩ L = S at *
    have hlen := hI.len
    have p1 := xnow h.now S
    have p2 := xpeek h.peek S (by omega)
    have p3 := xpop h.pop S (by omega)
    rw [peek_pop] at p2
    generalize S.pop.2 = e at *
    obtain ⟨⟨e1, e2, e3, e4, e5⟩, e6⟩ := e
    simp only [Evt.cv] at p2 p3
    simp [c9, frz_free, frz_map, AV.frz, AV.frz0, kill_free, kill_map, AV.kill, AV.kill0, killE_at, killM_at, Slot.kill_v, Slot.kill_a, Slot.kill_mk, m_kill, m_kill0, e_rn, -Option.bind_some, ↓bind_some2, putE_at, setM_at, setO_at, stripE_at, stripM_at, Slot.strip_v, Slot.strip_a, Slot.strip_mk, An.strip, argE_at, noM_at, objE_at, m_init, m_put, m_put0, m_row, m_obj, m_strip, m_stripA, m_stripX, ↓seqK_nrm, ↓seqK_exit, ↓seqK_ret, ↓regK_at, ↓blkK_nrm, ↓blkK_exit, ↓blkK_ret, ↓condC_true, ↓condC_false, ↓guardC_bool, ↓guardC_tup, ↓r_skip, ↓r_seq, ↓r_reg, ↓r_cond, ↓r_block, ↓r_loop, ↓r_exit, ↓r_ret, ↓a_nrm, ↓a_exit, ↓a_ret, ↓o_nil, ↓o_cons, ↓s_plain, ↓s_guard, e_none, e_set, e_newp, e_newr, e_app, e_obj, e_mk, K.run, Opd.get, setRowC_f, setRowC_t, AV.leaf, AV.whole, AV.cells, binC, mmC, eqC, natOf, loadC_f, loadC_t, loadI, Cl.okPtr, Cl.okMem, fillC, fin, finV, objAt, unname, resC, AV.free, AV.free0, AV.back, AV.backN, AV.isObj, AV.named, pack, lendAll, lend, objsOf, endC, AV.elems, Opd.an, zeroAn, elsOk_nil, elsOk_cons, elsOk_append, elsOk_map, elsOk_take, elsOk_drop, take_map_len, List.range_succ, List.range_zero, List.nil_append, List.cons_append, ha, hgt, haf, p1, p2, p3]
  · have hgt : (40 : Int) < L.length := by omega
    simp [c9, frz_free, frz_map, AV.frz, AV.frz0, kill_free, kill_map, AV.kill, AV.kill0, killE_at, killM_at, Slot.kill_v, Slot.kill_a, Slot.kill_mk, m_kill, m_kill0, e_rn, -Option.bind_some, ↓bind_some2, putE_at, setM_at, setO_at, stripE_at, stripM_at, Slot.strip_v, Slot.strip_a, Slot.strip_mk, An.strip, argE_at, noM_at, objE_at, m_init, m_put, m_put0, m_row, m_obj, m_strip, m_stripA, m_stripX, ↓seqK_nrm, ↓seqK_exit, ↓seqK_ret, ↓regK_at, ↓blkK_nrm, ↓blkK_exit, ↓blkK_ret, ↓condC_true, ↓condC_false, ↓guardC_bool, ↓guardC_tup, ↓r_skip, ↓r_seq, ↓r_reg, ↓r_cond, ↓r_block, ↓r_loop, ↓r_exit, ↓r_ret, ↓a_nrm, ↓a_exit, ↓a_ret, ↓o_nil, ↓o_cons, ↓s_plain, ↓s_guard, e_none, e_set, e_newp, e_newr, e_app, e_obj, e_mk, K.run, Opd.get, setRowC_f, setRowC_t, AV.leaf, AV.whole, AV.cells, binC, mmC, eqC, natOf, loadC_f, loadC_t, loadI, Cl.okPtr, Cl.okMem, fillC, fin, finV, objAt, unname, resC, AV.free, AV.free0, AV.back, AV.backN, AV.isObj, AV.named, pack, lendAll, lend, objsOf, endC, AV.elems, Opd.an, zeroAn, elsOk_nil, elsOk_cons, elsOk_append, elsOk_map, elsOk_take, elsOk_drop, take_map_len, List.range_succ, List.range_zero, List.nil_append, List.cons_append, ha, hgt]
end
end Go.Proofs.Ytbpbeogipgfjiaa
/- sheavelaw47.EventsPeek: for every input it returns true and leaves its input as it was. No condition. -/
namespace Go.Proofs.Ytbpbeogipgfjiaa
open Go Go.RowKit Go.ChangeShapes Go.WideShapes Go.ChangeAt
theorem ok_law_EventsPeek : FnOk Try.prog 9 c9 := ⟨fun xs w => by kernel_rfl, _, Try.func9, by kernel_rfl⟩
set_option maxRecDepth 100000 in
theorem eventsPeek_lifted (os : Os) (started : os.Started) (H : Type) (enc : TypeId × Value → H) :
    ReturnsInHanded {} Try.checked os 9 .any (Rows.eventsPeekSpec.pre6 enc Try.prog Try.f9 Rows.eventsPeekRow.domain false) (Rows.eventsPeekSpec.post enc Try.prog Try.f9 false true false false) := by
  refine returnsInHanded_of_change (C := Try.checked) own started (by kernel_rfl) Try.func9
    (ChangeSpec.witness6 (enc := enc) (C := Try.checked) false ⟨#[], #[.slice none 0 0], []⟩ 8 (by kernel_rfl) (by kernel_rfl) (by kernel_rfl) (by kernel_rfl)) ?_
  intro W base args ds gs before hval0 hW hcnd _
  have hval : ∀ (j : Nat) t v, Try.f9.params[j]? = some t → args[j]? = some v → Value.okWide Try.prog W .any base t v := hval0
  have hW' := hW
  obtain ⟨p, q, hA0, hV, rfl, hfz, hnd⟩ := hW
  have hA : DataW.TrodAll enc Try.prog W 0 (fun _ => true) true Try.f9.params.toList args.toList ds p := hA0
  rw [Try.params9] at hA hval
  have hA1 : DataW.TrodAll enc Try.prog W 0 (fun _ => true) true [22] args.toList ds p := hA
  obtain ⟨xs, hx, hty⟩ := args_rep (k := 4) hA1 (fun j t v e e' => hval j t v (by simpa using e) (by simpa using e')) (by kernel_rfl)
  simp only [ArgsTy] at hty
  obtain ⟨a0, _, rfl, t0, rfl⟩ := hty
  obtain ⟨nl, L, rfl, hlen, hok⟩ := opsTy t0
  have hd : ∃ d0, ds = [d0] := by
    obtain ⟨_, _, d0, _, _, _, _, rfl, _, _, r0⟩ := trodAll_cons hA1
    obtain ⟨_, rfl, _⟩ := trodAll_nil r0
    exact ⟨d0, rfl⟩
  obtain ⟨d0, rfl⟩ := hd
  obtain ⟨rfl, rfl⟩ := trodVars_none hV
  have hev := peeklaw_ev (T := lawT 9 c9) ⟨rfl, rfl, rfl, rfl, rfl, rfl, rfl, rfl, rfl, rfl, rfl, rfl, rfl, rfl, rfl, rfl⟩ rfl rfl nl L hok
  have hC := (ev_sound mixed (lawT_ok ok_law_EventsPeek) queExt_ok hev).2 Av0 W args.toList (fun _ _ h => h.elim) hx
  rw [Array.toArray_toList] at hC
  refine hC.mono fun e W' ⟨v, he, hv, hb⟩ => ?_
  have hv' : v = .bool true := hv
  subst he
  subst hv'
  exact ⟨_, rfl, post_of_below (pa := p) (pv := []) hW' (fun _ _ _ => trodAll_cons_mk (shut_bool Try.underlying4 _) trodAll_mk0) (args_back laidOut hb hA1 (by kernel_rfl)) rfl hb⟩
theorem eventsPeek_holds : Rows.EventsPeekSaid :=
  OpenClaim.holds_of_wide 9 Try.f9 rfl rfl rfl rfl rfl rfl rfl ⟨rfl, rfl, rfl, rfl, rfl⟩ rfl rfl rfl rfl rfl (by kernel_rfl) Try.func9 (by kernel_rfl)
    (of_decide_eq_true (by kernel_rfl)) (by unfold Func.isWrapper; first | (rw [if_pos (by decide +kernel)]; kernel_rfl) | (rw [if_neg (by decide +kernel)]; exact ⟨rfl, rfl⟩))
    (fun os started H enc _ => eventsPeek_lifted os started H enc)
end Go.Proofs.Ytbpbeogipgfjiaa
