/- The contracts of the network's methods, for the machine. -/
import Derived.Test.YtinpinjjdkilpaaNa
namespace Go.Proofs.Ytinpinjjdkilpaa
open Go Go.RowKit
theorem ok_awake : CallOk Try.prog netObjs 11 [] none (.bool true, none) := by
  refine ⟨fun xs w => by kernel_rfl, fun av w vs hav hargs => ?_⟩
  simp only [RepA] at hargs
  subst hargs
  refine (awake_any w).mono ?_
  rintro e w' ⟨rfl, hb⟩
  exact ⟨_, rfl, rfl, hb⟩
theorem ok_begin (k : Int) (h0 : 0 ≤ k) (h1 : k ≤ 255) : CallOk Try.prog netObjs 17 [.int .u8 k] none (.tup [.ptr 0 0 0, .agg [.int .i64 (newSt (1 + k % 5)).n, .int .i64 (newSt (1 + k % 5)).next, .sl true [], .sl true []], .bool true], some (encN (newNet (1 + k % 5)))) := by
  refine ⟨fun xs w => by kernel_rfl, fun av w vs hav hargs => ?_⟩
  simp only [RepA] at hargs
  obtain ⟨u, us, rfl, hu, rfl⟩ := hargs
  have hu : u = .int .u8 k := hu
  subst hu
  refine (begin_any (fun b => w.heap.size ≤ b) k w (fun b hb => hb) h0 h1).mono ?_
  rintro e w' ⟨x, rfl, ⟨m, pk, hN, hG⟩, hb, hx⟩
  refine ⟨_, x, NetF x m pk, rfl, ?_, ⟨_, m, pk, rfl, hN, fun b => Iff.rfl⟩, hG, hb⟩
  refine ⟨_, rfl, _, _, rfl, rfl, _, _, rfl, ?_, _, _, rfl, rfl, rfl⟩
  have nil : ∀ {av : Av} {w : World}, Rep av w (.sl true []) (.slice none 0 0) := fun {av w} => ⟨none, 0, rfl, Nat.le_refl _, (fun _ h => by cases h), fun _ => ⟨rfl, rfl, rfl⟩, fun h => by cases h⟩
  exact ⟨_, rfl, _, _, rfl, rfl, rfl, _, _, rfl, rfl, rfl, _, _, rfl, nil, rfl, _, _, rfl, nil, rfl, rfl⟩
section
variable {A : AV} {S : Net}
/-- the argument that is the object -/
theorem obj_arg {p : Nat} {av avl : Av} {w : World} {u : Value} (h : RepS (Ix.one p) av avl w (.ptr 0 0 0) u) : u = .pointer (some ⟨p, 0, none⟩) := by
  obtain ⟨b, hb, hu⟩ := h
  have : (some p : Option Nat) = some b := hb
  injection this with this
  rw [hu, this]
theorem ok_do (hd : decN A = some S) (o : Op) (h1 : S.l.length ≤ 100) (h2 : 0 ≤ S.last) (h3 : S.last ≤ 1000000) (h4 : 0 ≤ o.kind ∧ o.kind ≤ 255) : CallOk Try.prog netObjs 19 [.ptr 0 0 0, opA o] (some A) (resA (S.exec o).2, some (encN (S.exec o).1)) := by
  refine ⟨fun xs w => by kernel_rfl, fun av w vs p H hav hH hat hargs => ?_⟩
  simp only [RepA] at hargs
  obtain ⟨u1, us, rfl, hu1, u2, us2, rfl, hu2, rfl⟩ := hargs
  have e1 := obj_arg hu1
  subst e1
  obtain ⟨xs, rfl, hc⟩ := hu2
  simp only [RepCL] at hc
  obtain ⟨a1, r1, e1, rfl, _, a2, r2, rfl, rfl, _, a3, r3, rfl, rfl, _, a4, r4, rfl, rfl, _, a5, r5, rfl, rfl, _, a6, r6, rfl, rfl, _, rfl⟩ := hc
  have e2 : xs = #[.int .u8 o.kind, .int .i64 o.a, .int .i64 o.b, .int .i64 o.id, .string o.data, .bool o.cut] := by rw [← Array.toArray_toList (xs := xs), e1]
  subst e2
  obtain ⟨rfl, hN, hF⟩ := obj_pre (w := w) hat hd
  refine (do_any _ p S o w hN hF h1 h2 h3 h4).mono fun e w' h => ?_
  obtain ⟨rfl, H', hat', hH', hk⟩ := obj_post h
  exact ⟨_, H', rfl, res_rep _, hat', hH', hk⟩
theorem fresh_ok {H : Nat → Prop} {p : Nat} {av : Av} {w w' : World} {l : List Pkt} {e : Ending} (hat : netObjs.at_ A H p w) (hav : ∀ b o, av b o → b < w.heap.size) (h : FreshP w l e w') :
    ∃ v H', e = .returned v ∧ Rep (fun b o => av b o ∨ H' b) w' (pksA l) v ∧ netObjs.at_ A H' p w' ∧ (∀ b, H' b → H b ∨ w.heap.size ≤ b) ∧ Keep H w w' := by
  obtain ⟨v, rfl, hown, hb, hfr⟩ := h
  refine ⟨v, H, rfl, pks_rep hown fun b o hv hx => ?_, netObjs.keep hat (fun b hH => hb.block b (netObjs.lt hat hH)) hb.size, fun b h => .inl h, Keep.of_below hb H⟩
  have := hfr b hv
  rcases hx with hx | hx
  · have := hav b o hx; omega
  · have := netObjs.lt hat hx; omega
theorem ok_pending (hd : decN A = some S) (h1 : S.l.length ≤ 100) : CallOk Try.prog netObjs 14 [.ptr 0 0 0] (some A) (pksA S.l, some (encN S)) := by
  refine ⟨fun xs w => by kernel_rfl, fun av w vs p H hav hH hat hargs => ?_⟩
  simp only [RepA] at hargs
  obtain ⟨u1, us, rfl, hu1, rfl⟩ := hargs
  have e1 := obj_arg hu1
  subst e1
  obtain ⟨rfl, hN, hF⟩ := obj_pre (w := w) hat hd
  exact (pending_o hN h1).mono fun e w' h => fresh_ok hat hav h
theorem ok_ready (hd : decN A = some S) (h1 : S.l.length ≤ 100) : CallOk Try.prog netObjs 15 [.ptr 0 0 0] (some A) (pksA S.ready, some (encN S)) := by
  refine ⟨fun xs w => by kernel_rfl, fun av w vs p H hav hH hat hargs => ?_⟩
  simp only [RepA] at hargs
  obtain ⟨u1, us, rfl, hu1, rfl⟩ := hargs
  have e1 := obj_arg hu1
  subst e1
  obtain ⟨rfl, hN, hF⟩ := obj_pre (w := w) hat hd
  exact (ready_o hN h1).mono fun e w' h => fresh_ok hat hav h
theorem ok_cut (hd : decN A = some S) (a b : Int) (c : Bool) : CallOk Try.prog netObjs 21 [.ptr 0 0 0, .int .i64 a, .int .i64 b, .bool c] (some A) (.int .i64 (S.setCut a b c).2, some (encN (S.setCut a b c).1)) := by
  refine ⟨fun xs w => by kernel_rfl, fun av w vs p H hav hH hat hargs => ?_⟩
  simp only [RepA] at hargs
  obtain ⟨u1, us, rfl, hu1, u2, us2, rfl, hu2, u3, us3, rfl, hu3, u4, us4, rfl, hu4, rfl⟩ := hargs
  have e1 := obj_arg hu1
  subst e1
  have e2 : u2 = .int .i64 a := hu2
  have e3 : u3 = .int .i64 b := hu3
  have e4 : u4 = .bool c := hu4
  subst e2
  subst e3
  subst e4
  obtain ⟨rfl, hN, hF⟩ := obj_pre (w := w) hat hd
  refine (cut_o a b c hN hF _ rfl).mono fun e w' h => ?_
  obtain ⟨rfl, H', hat', hH', hk⟩ := obj_post h
  exact ⟨_, H', rfl, rfl, hat', hH', hk⟩
end
theorem dec_bind {S0 : Option AV} {S : Net} (h : S0.bind decN = some S) : ∃ A, S0 = some A ∧ decN A = some S := Option.bind_eq_some_iff.1 h
theorem netExt_ok (f : Nat) (args : List AV) (S0 : Option AV) (r : RV) (h : netExt f args S0 = some r) : CallOk Try.prog netObjs f args S0 r := by
  unfold netExt at h
  split at h
  · rename_i hf
    subst hf
    split at h
    · injection h with h; subst h; exact ok_awake
    · cases h
  · split at h
    · rename_i hf
      subst hf
      split at h
      · split at h
        · rename_i hk
          injection h with h; subst h; exact ok_begin _ hk.1 hk.2
        · cases h
      · cases h
    · split at h
      · rename_i hf
        subst hf
        split at h
        · rename_i k a b id d c S hS
          obtain ⟨A, rfl, hd⟩ := dec_bind hS
          split at h
          · rename_i hk
            injection h with h; subst h; exact ok_do hd ⟨k, a, b, id, d, c⟩ hk.1 hk.2.1 hk.2.2.1 hk.2.2.2
          · cases h
        · cases h
      · split at h
        · rename_i hf
          subst hf
          split at h
          · rename_i S _ hS
            obtain ⟨A, rfl, hd⟩ := dec_bind hS
            split at h
            · rename_i hk
              injection h with h; subst h; exact ok_pending hd hk
            · cases h
          · cases h
        · split at h
          · rename_i hf
            subst hf
            split at h
            · rename_i S _ hS
              obtain ⟨A, rfl, hd⟩ := dec_bind hS
              split at h
              · rename_i hk
                injection h with h; subst h; exact ok_ready hd hk
              · cases h
            · cases h
          · split at h
            · rename_i hf
              subst hf
              split at h
              · rename_i S _ hS
                obtain ⟨A, rfl, hd⟩ := dec_bind hS
                injection h with h; subst h; exact ok_cut hd _ _ _
              · cases h
            · cases h
end Go.Proofs.Ytinpinjjdkilpaa
