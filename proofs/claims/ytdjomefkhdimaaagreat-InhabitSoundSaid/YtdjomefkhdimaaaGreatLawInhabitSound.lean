/- sheavelaw11.InhabitSound: for every input it returns true and leaves its input as it was. No condition. -/
import Derived.Test.YtdjomefkhdimaaaGreatMe
import Derived.ProofKit
import Derived.JoinedCond
set_option linter.unusedSimpArgs false
set_option linter.unusedVariables false
set_option linter.unusedSectionVars false
namespace Go.Proofs.YtdjomefkhdimaaaGreat
open Go
set_option maxRecDepth 10000
set_option maxHeartbeats 8000000
set_option linter.unusedSimpArgs false
theorem fit_ev5 (sn : Bool) (S : List Typ) (t : Int) (x : Typ) (v : Vl) (f : Int -> Vl -> Bool) (h0 : 0 <= t) (ht1 : ¬ (S.length : Int) <= t) (g : (S.map typC)[t.toNat]? = some (typC x)) (hk : x.kind = 5) (hv : v.kind = 5) (hp : evA 94 [.agg (valC v)] (.bool true)) (hr : v.rest = []) (hml : x.mems.length <= 9223372036854775807) (hre : evA 97 [.agg (typC x), .sl v.rn []] (.bool true)) (hf : ∀ m ∈ x.mems, ∀ u ∈ v.items, evA 77 [schA sn S, .int .i64 m.ty, .agg (valC u), .bool true] (.bool (f m.ty u))) : evA 77 [schA sn S, .int .i64 t, .agg (valC v), .bool true] (.bool (decide (v.items.length = x.mems.length) && q3Y f x.mems v.items)) := by
 have ht0 : ¬ t < 0 := by omega
 simp only [evA, typC, q03, hk, hv] at hp g
 refine q00 (c := q08) rfl rfl ?_
 rw [q03]
 simp only [hr, List.map_nil] at hp ⊢
 simp only [evA, typC, hk] at hre
 by_cases c1 : v.items.length = x.mems.length
 ·skip
  simp [q08, -Option.bind_some, -Int.toNat_lt, -List.map_map, List.range_succ, ht0, ht1, h0, g, hp, hk, hv, c1, hr, hre]
  refine q0h v.items.length (fun i s => (s.env 3).v = .bool true /\ (s.env 4).v = .ptr 4 1 0 /\ s.mem 4 1 = some [⟨.sl sn (S.map typC), .no⟩] /\ (s.env 6).v = .ptr 6 1 0 /\ s.mem 6 1 = some ([⟨.int .i64 v.kind, .no⟩, ⟨.bool v.b, .no⟩, ⟨.int .i64 v.i, .no⟩, ⟨.str v.s, .no⟩, ⟨.int .i64 v.id, .no⟩, ⟨.sl v.kn (v.keys.map valC), .no⟩, ⟨.sl v.xn (v.items.map valC), .no⟩, ⟨.sl v.rn (v.rest.map rawC), .no⟩]) /\ (s.env 9).v = .ptr 9 3 0 /\ s.mem 9 3 = some (q1E x) /\ (s.env 12).v = .int .i64 i /\ q3Y f (x.mems.drop i) (v.items.drop i) = q3Y f x.mems v.items)
   (fun e s => (e = .exit 1 /\ q3Y f x.mems v.items = true) \/ (e = .ret /\ q3Y f x.mems v.items = false /\ (s.env 8).v = .bool false)) (fun i hi s k h ih hk' => ?_) _ _ ?_ (fun e s h => ?_)
  ·obtain ⟨e3, e4, m4, e6, m6, e9, m9, e12, hs⟩ := h
   refine q05 ?_
   by_cases hlt2 : i < v.items.length
   ·have hlt' : (i : Int) < v.items.length := by omega
    have hlt : i < x.mems.length := by omega
    have g1 : (x.mems.map memC)[i]? = some (memC x.mems[i]) := by simp [hlt]
    have g2 : (v.items.map valC)[i]? = some (valC v.items[i]) := by simp [hlt2]
    have hw := q1d (i := i) (by omega)
    have hx := hf x.mems[i] (List.getElem_mem _) v.items[i] (List.getElem_mem _)
    rw [List.drop_eq_getElem_cons hlt, List.drop_eq_getElem_cons hlt2, q3Y] at hs
    generalize x.mems[i] = m at *
    generalize v.items[i] = u at *
    simp only [evA, memC, q03] at g1 g2 hx
    cases hfu : f m.ty u with
    | true =>
     rw [hfu] at hx hs
     simp [q3C, -Option.bind_some, -Int.toNat_lt, -List.map_map, List.range_succ, e3, e4, m4, e6, m6, e9, m9, e12, hlt', g1, g2, hx, hw]
     refine ih hlt2 _ ⟨?_, ?_, ?_, ?_, ?_, ?_, ?_, ?_, by simpa using hs⟩ <;> simp [e3, e4, m4, e6, m6, e9, m9]
    | false =>
     rw [hfu] at hx hs
     simp [q3C, -Option.bind_some, -Int.toNat_lt, -List.map_map, List.range_succ, e3, e4, m4, e6, m6, e9, m9, e12, hlt', g1, g2, hx]
     exact hk' _ _ (.inr ⟨rfl, by rw [<- hs]; rfl, by simp⟩)
   ·have hlt' : ¬ (i : Int) < v.items.length := by omega
    simp [q3C, -Option.bind_some, -Int.toNat_lt, -List.map_map, List.range_succ, e6, m6, e12, hlt']
    have hd : x.mems.drop i = [] := List.drop_eq_nil_of_le (by omega)
    rw [hd, q3Y] at hs
    ·exact hk' _ _ (.inl ⟨rfl, hs.symm⟩)
    ·intro m r v' q h; cases h
  ·simp [hk, hv, hr]
  ·rcases h with ⟨rfl, h1⟩ | ⟨rfl, h1, h2⟩
   ·simp [-Option.bind_some, -Int.toNat_lt, -List.map_map, List.range_succ, h1]
   ·simp [-Option.bind_some, -Int.toNat_lt, -List.map_map, List.range_succ, h1, h2]
 ·have c1' : ¬ (v.items.length : Int) = x.mems.length := by omega
  simp [q08, -Option.bind_some, -Int.toNat_lt, -List.map_map, List.range_succ, ht0, ht1, h0, g, hp, hk, hv, hr, c1, c1']
theorem fit_ev6 (sn : Bool) (S : List Typ) (t : Int) (x : Typ) (v : Vl) (f : Int -> Vl -> Bool) (h0 : 0 <= t) (ht1 : ¬ (S.length : Int) <= t) (g : (S.map typC)[t.toNat]? = some (typC x)) (hk : x.kind = 6) (hv : v.kind = 6) (hp : evA 94 [.agg (valC v)] (.bool true)) (hr : v.rest = []) (hm : evA 98 [.agg (typC x), .int .i64 v.id] (memA x.mems v.id)) (hf : ∀ m ∈ x.mems, ∀ u ∈ v.items, evA 77 [schA sn S, .int .i64 m.ty, .agg (valC u), .bool true] (.bool (f m.ty u))) : evA 77 [schA sn S, .int .i64 t, .agg (valC v), .bool true] (.bool (q49 f x.mems[(q4Y x.mems v.id).toNat]? (decide (0 <= q4Y x.mems v.id)) v.rest.isEmpty v.items)) := by
 have ht0 : ¬ t < 0 := by omega
 simp only [evA, typC, q03, hk, hv] at hp g
 refine q00 (c := q08) rfl rfl ?_
 rw [q03]
 simp only [hr, List.map_nil] at hp ⊢
 simp only [evA, typC, memA, hk] at hm
 have hix := idxI_some (fun m : Mem => decide (m.id = v.id)) x.mems
 have hge := q2W (fun m : Mem => decide (m.id = v.id)) x.mems
 change q4Y x.mems v.id ≠ -1 -> _ at hix
 change -1 <= q4Y x.mems v.id at hge
 change ∀ h : q4Y x.mems v.id ≠ -1, ∃ y, x.mems[(q4Y x.mems v.id).toNat]? = some y /\ _ at hix
 generalize q4Y x.mems v.id = ix at *
 by_cases c1 : 0 <= ix
 ·simp only [c1, decide_true] at hm
  obtain ⟨m, hm1, _⟩ := hix (by omega)
  have hmx : max ix 0 = ix := Int.max_eq_left c1
  rw [hmx] at hm
  have g2 : (x.mems.map memC)[ix.toNat]? = some (memC m) := by rw [List.getElem?_map, hm1]; rfl
  simp only [memC] at g2
  rw [hm1]
  by_cases c2 : v.items.length = 1
  ·obtain ⟨u, hu⟩ := List.length_eq_one_iff.1 c2
   have hf := hf m (List.mem_of_getElem? hm1) u (by rw [hu]; simp)
   simp only [evA, q03] at hf
   rw [hu] at hp ⊢
   simp only [q03, List.map_cons, List.map_nil] at hp
   simp [q08, -Option.bind_some, -Int.toNat_lt, -List.map_map, List.range_succ, ht0, ht1, h0, g, hp, hk, hv, hr, hm, g2, c1, hf, q03, q49]
  ·have c2' : ¬ (v.items.length : Int) = 1 := by omega
   rw [q83 _ _ _ _ _ c2]
   simp [q08, -Option.bind_some, -Int.toNat_lt, -List.map_map, List.range_succ, ht0, ht1, h0, g, hp, hk, hv, hr, hm, g2, c1, c2']
 ·simp only [c1, decide_false] at hm
  rw [decide_eq_false c1, unionFit_no]
  cases ho : x.opn <;> simp only [ho] at hm g
  ·simp [q08, -Option.bind_some, -Int.toNat_lt, -List.map_map, List.range_succ, ht0, ht1, h0, g, hp, hk, hv, hr, hm, ho]
  ·simp [q08, -Option.bind_some, -Int.toNat_lt, -List.map_map, List.range_succ, ht0, ht1, h0, g, hp, hk, hv, hr, hm, ho]
theorem fit_ev8 (sn : Bool) (S : List Typ) (t : Int) (x : Typ) (v : Vl) (f : Int -> Vl -> Bool) (h0 : 0 <= t) (ht1 : ¬ (S.length : Int) <= t) (g : (S.map typC)[t.toNat]? = some (typC x)) (hk : x.kind = 8) (hv : v.kind = 8) (hp : evA 94 [.agg (valC v)] (.bool true)) (hr : v.rest = []) (hmx : x.max <= 50) (hi64 : ∀ k ∈ v.keys, i64R k.i) (he : evA 99 [schA sn S, .int .i64 x.elem, .sl v.xn (v.items.map valC), .bool true] (.bool (v.items.all (f x.elem)))) (hke : evA 99 [schA sn S, .int .i64 x.key, .sl v.kn (v.keys.map valC), .bool true] (.bool (v.keys.all (f x.key)))) : evA 77 [schA sn S, .int .i64 t, .agg (valC v), .bool true] (.bool (decide ((v.keys.length : Int) <= x.max) && decide (v.items.length = v.keys.length) && v.keys.all (f x.key) && ascV v.keys && v.items.all (f x.elem))) := by
 have ht0 : ¬ t < 0 := by omega
 simp only [evA, typC, q03, hk, hv] at hp g
 refine q00 (c := q08) rfl rfl ?_
 rw [q03]
 simp only [hr, List.map_nil] at hp ⊢
 simp only [evA] at he hke
 generalize v.items.all (f x.elem) = E at *
 generalize v.keys.all (f x.key) = KE at *
 by_cases c1 : x.max < v.keys.length
 ·have c1' : ¬ (v.keys.length : Int) <= x.max := by omega
  simp [q08, -Option.bind_some, -Int.toNat_lt, -List.map_map, List.range_succ, ht0, ht1, h0, g, hp, hk, hv, hr, c1, c1']
 have c1' : (v.keys.length : Int) <= x.max := by omega
 have hkl : v.keys.length <= 50 := by omega
 by_cases c2 : v.items.length = v.keys.length
 case neg =>
  have c2' : ¬ (v.items.length : Int) = v.keys.length := by omega
  simp [q08, -Option.bind_some, -Int.toNat_lt, -List.map_map, List.range_succ, ht0, ht1, h0, g, hp, hk, hv, hr, c1, c1', c2, c2']
 cases KE with
 | false => simp [q08, -Option.bind_some, -Int.toNat_lt, -List.map_map, List.range_succ, ht0, ht1, h0, g, hp, hk, hv, hr, c1, c1', c2, hke]
 | true =>
  cases E with
  | false => simp [q08, -Option.bind_some, -Int.toNat_lt, -List.map_map, List.range_succ, ht0, ht1, h0, g, hp, hk, hv, hr, c1, c1', c2, hke, he]
  | true =>
  simp [q08, -Option.bind_some, -Int.toNat_lt, -List.map_map, List.range_succ, ht0, ht1, h0, g, hp, hk, hv, hr, c1, c1', c2, hke, he]
  refine q0h (v.keys.length - 1) (fun i s => (s.env 6).v = .ptr 6 1 0 /\ s.mem 6 1 = some (valRow v) /\ (s.env 15).v = .int .i64 ((i + 1 : Nat) : Int) /\ ascV (v.keys.drop i) = ascV v.keys)
   (fun e s => (e = .exit 3 /\ ascV v.keys = true) \/ (e = .ret /\ ascV v.keys = false /\ (s.env 8).v = .bool false)) (fun i hi s k h ih hk' => ?_) _ _ ?_ (fun e s h => ?_)
  ·obtain ⟨e6, m6, e20, hs⟩ := h
   refine q05 ?_
   by_cases hlt : i < v.keys.length - 1
   ·have hl1 : i < v.keys.length := by omega
    have hl2 : i + 1 < v.keys.length := by omega
    have hx := rvcmp_ev v.keys[i] v.keys[i + 1] (hi64 _ (List.getElem_mem _)) (hi64 _ (List.getElem_mem _))
    have g1 : (v.keys.map valC)[i]? = some (valC v.keys[i]) := by simp [hl1]
    have g2 : (v.keys.map valC)[i + 1]? = some (valC v.keys[i + 1]) := by simp [hl2]
    rw [List.drop_eq_getElem_cons hl1, List.drop_eq_getElem_cons hl2, ascV] at hs
    have hs' : (decide (vcmp v.keys[i] v.keys[i + 1] < 0) && ascV (v.keys.drop (i + 1))) = ascV v.keys := by rw [<- hs, List.drop_eq_getElem_cons hl2]
    clear hs
    generalize v.keys[i] = a at *
    generalize v.keys[i + 1] = b at *
    obtain ⟨z, hz⟩ : ∃ z : Int, z = ((i + 1 : Nat) : Int) := ⟨_, rfl⟩
    obtain ⟨y, hy⟩ : ∃ y : Int, y = (i : Int) := ⟨_, rfl⟩
    rw [<- hz] at e20
    have hz0 : 0 <= z := by omega
    have hy0 : 0 <= y := by omega
    have hlz : z < v.keys.length := by omega
    have hwm : IntKind.i64.wrap (z - 1) = y := by rw [IntWalk.i64_in _ (by omega)]; omega
    have hwz : IntKind.i64.wrap (z + 1) = ((i + 1 + 1 : Nat) : Int) := by rw [IntWalk.i64_in _ (by omega)]; omega
    rw [show i = y.toNat from by omega] at g1
    rw [show i + 1 = z.toNat from by omega] at g2
    simp only [evA, q03] at g1 g2 hx
    by_cases hc : vcmp a b < 0
    ·have hc' : ¬ 0 <= vcmp a b := by omega
     simp [q3B, -Option.bind_some, -Int.toNat_lt, -List.map_map, List.range_succ, e6, m6, e20, hlz, hz0, hy0, hwm, g1, g2, hx, hc', hwz]
     refine ih hlt _ ⟨?_, ?_, ?_, by rw [<- hs', decide_eq_true hc]; rfl⟩ <;> simp [e6, m6]
    ·have hc' : 0 <= vcmp a b := by omega
     simp [q3B, -Option.bind_some, -Int.toNat_lt, -List.map_map, List.range_succ, e6, m6, e20, hlz, hz0, hy0, hwm, g1, g2, hx, hc']
     exact hk' _ _ (.inr ⟨rfl, by rw [<- hs', decide_eq_false hc]; rfl, by simp⟩)
   ·obtain ⟨z, hz⟩ : ∃ z : Int, z = ((i + 1 : Nat) : Int) := ⟨_, rfl⟩
    rw [<- hz] at e20
    have hlz : ¬ z < v.keys.length := by omega
    have hasc : ascV (v.keys.drop i) = true := by
     match hd : v.keys.drop i with
     | [] => rfl
     | [_] => rfl
     | a :: b :: r => have := congrArg List.length hd; simp at this; omega
    rw [hasc] at hs
    simp [q3B, -Option.bind_some, -Int.toNat_lt, -List.map_map, List.range_succ, e6, m6, e20, hlz]
    exact hk' _ _ (.inl ⟨rfl, hs.symm⟩)
  ·simp [hv, hr]
  ·rcases h with ⟨rfl, h1⟩ | ⟨rfl, h1, h2⟩
   ·simp [-Option.bind_some, -Int.toNat_lt, -List.map_map, List.range_succ, h1]
   ·simp [-Option.bind_some, -Int.toNat_lt, -List.map_map, List.range_succ, h1, h2]
end Go.Proofs.YtdjomefkhdimaaaGreat
namespace Go.Proofs.YtdjomefkhdimaaaGreat
open Go
set_option maxRecDepth 10000
set_option maxHeartbeats 8000000
set_option linter.unusedSimpArgs false
theorem rzero_ev1 (v : Vl) (h : v.kind = 1) : evA 94 [.agg (valC v)] (.bool (q3r v)) := by
 refine q00 (c := q01) rfl rfl ?_
 rw [q03]
 unfold q3r
 by_cases hi : v.i = 0
 ·by_cases hs : v.s = ⟨#[]⟩
  ·by_cases hd : v.id = 0
   ·by_cases hk : v.keys = []
    ·by_cases hx : v.items = []
     ·by_cases hr : v.rest = []
      ·simp [q01, -Option.bind_some, -Int.toNat_lt, -List.map_map, List.range_succ, h, hi, hs, hd, hk, hx, hr]
      ·simp [q01, -Option.bind_some, -Int.toNat_lt, -List.map_map, List.range_succ, h, hi, hs, hd, hk, hx, hr]
     ·simp [q01, -Option.bind_some, -Int.toNat_lt, -List.map_map, List.range_succ, h, hi, hs, hd, hk, hx]
    ·simp [q01, -Option.bind_some, -Int.toNat_lt, -List.map_map, List.range_succ, h, hi, hs, hd, hk]
   ·simp [q01, -Option.bind_some, -Int.toNat_lt, -List.map_map, List.range_succ, h, hi, hs, hd]
  ·simp [q01, -Option.bind_some, -Int.toNat_lt, -List.map_map, List.range_succ, h, hi, hs]
 ·simp [q01, -Option.bind_some, -Int.toNat_lt, -List.map_map, List.range_succ, h, hi]
theorem rzero_ev2 (v : Vl) (h : v.kind = 2) : evA 94 [.agg (valC v)] (.bool (q3r v)) := by
 refine q00 (c := q01) rfl rfl ?_
 rw [q03]
 unfold q3r
 by_cases hb : v.b = false
 ·by_cases hs : v.s = ⟨#[]⟩
  ·by_cases hd : v.id = 0
   ·by_cases hk : v.keys = []
    ·by_cases hx : v.items = []
     ·by_cases hr : v.rest = []
      ·simp [q01, -Option.bind_some, -Int.toNat_lt, -List.map_map, List.range_succ, h, hb, hs, hd, hk, hx, hr]
      ·simp [q01, -Option.bind_some, -Int.toNat_lt, -List.map_map, List.range_succ, h, hb, hs, hd, hk, hx, hr]
     ·simp [q01, -Option.bind_some, -Int.toNat_lt, -List.map_map, List.range_succ, h, hb, hs, hd, hk, hx]
    ·simp [q01, -Option.bind_some, -Int.toNat_lt, -List.map_map, List.range_succ, h, hb, hs, hd, hk]
   ·simp [q01, -Option.bind_some, -Int.toNat_lt, -List.map_map, List.range_succ, h, hb, hs, hd]
  ·simp [q01, -Option.bind_some, -Int.toNat_lt, -List.map_map, List.range_succ, h, hb, hs]
 ·simp [q01, -Option.bind_some, -Int.toNat_lt, -List.map_map, List.range_succ, h, hb]
theorem rzero_ev3 (v : Vl) (h : v.kind = 3) : evA 94 [.agg (valC v)] (.bool (q3r v)) := by
 refine q00 (c := q01) rfl rfl ?_
 rw [q03]
 unfold q3r
 by_cases hb : v.b = false
 ·by_cases hi : v.i = 0
  ·by_cases hd : v.id = 0
   ·by_cases hk : v.keys = []
    ·by_cases hx : v.items = []
     ·by_cases hr : v.rest = []
      ·simp [q01, -Option.bind_some, -Int.toNat_lt, -List.map_map, List.range_succ, h, hb, hi, hd, hk, hx, hr]
      ·simp [q01, -Option.bind_some, -Int.toNat_lt, -List.map_map, List.range_succ, h, hb, hi, hd, hk, hx, hr]
     ·simp [q01, -Option.bind_some, -Int.toNat_lt, -List.map_map, List.range_succ, h, hb, hi, hd, hk, hx]
    ·simp [q01, -Option.bind_some, -Int.toNat_lt, -List.map_map, List.range_succ, h, hb, hi, hd, hk]
   ·simp [q01, -Option.bind_some, -Int.toNat_lt, -List.map_map, List.range_succ, h, hb, hi, hd]
  ·simp [q01, -Option.bind_some, -Int.toNat_lt, -List.map_map, List.range_succ, h, hb, hi]
 ·simp [q01, -Option.bind_some, -Int.toNat_lt, -List.map_map, List.range_succ, h, hb]
end Go.Proofs.YtdjomefkhdimaaaGreat
namespace Go.Proofs.YtdjomefkhdimaaaGreat
open Go
set_option maxRecDepth 10000
set_option maxHeartbeats 8000000
set_option linter.unusedSimpArgs false
theorem rzero_ev4 (v : Vl) (h : v.kind = 4) : evA 94 [.agg (valC v)] (.bool (q3r v)) := by
 refine q00 (c := q01) rfl rfl ?_
 rw [q03]
 unfold q3r
 by_cases hb : v.b = false
 ·by_cases hi : v.i = 0
  ·by_cases hs : v.s = ⟨#[]⟩
   ·by_cases hk : v.keys = []
    ·by_cases hx : v.items = []
     ·by_cases hr : v.rest = []
      ·simp [q01, -Option.bind_some, -Int.toNat_lt, -List.map_map, List.range_succ, h, hb, hi, hs, hk, hx, hr]
      ·simp [q01, -Option.bind_some, -Int.toNat_lt, -List.map_map, List.range_succ, h, hb, hi, hs, hk, hx, hr]
     ·simp [q01, -Option.bind_some, -Int.toNat_lt, -List.map_map, List.range_succ, h, hb, hi, hs, hk, hx]
    ·simp [q01, -Option.bind_some, -Int.toNat_lt, -List.map_map, List.range_succ, h, hb, hi, hs, hk]
   ·simp [q01, -Option.bind_some, -Int.toNat_lt, -List.map_map, List.range_succ, h, hb, hi, hs]
  ·simp [q01, -Option.bind_some, -Int.toNat_lt, -List.map_map, List.range_succ, h, hb, hi]
 ·simp [q01, -Option.bind_some, -Int.toNat_lt, -List.map_map, List.range_succ, h, hb]
theorem rzero_ev5 (v : Vl) (h : v.kind = 5) : evA 94 [.agg (valC v)] (.bool (q3r v)) := by
 refine q00 (c := q01) rfl rfl ?_
 rw [q03]
 unfold q3r
 by_cases hb : v.b = false
 ·by_cases hi : v.i = 0
  ·by_cases hs : v.s = ⟨#[]⟩
   ·by_cases hd : v.id = 0
    ·by_cases hk : v.keys = []
     ·simp [q01, -Option.bind_some, -Int.toNat_lt, -List.map_map, List.range_succ, h, hb, hi, hs, hd, hk]
     ·simp [q01, -Option.bind_some, -Int.toNat_lt, -List.map_map, List.range_succ, h, hb, hi, hs, hd, hk]
    ·simp [q01, -Option.bind_some, -Int.toNat_lt, -List.map_map, List.range_succ, h, hb, hi, hs, hd]
   ·simp [q01, -Option.bind_some, -Int.toNat_lt, -List.map_map, List.range_succ, h, hb, hi, hs]
  ·simp [q01, -Option.bind_some, -Int.toNat_lt, -List.map_map, List.range_succ, h, hb, hi]
 ·simp [q01, -Option.bind_some, -Int.toNat_lt, -List.map_map, List.range_succ, h, hb]
theorem rzero_ev6 (v : Vl) (h : v.kind = 6) : evA 94 [.agg (valC v)] (.bool (q3r v)) := by
 refine q00 (c := q01) rfl rfl ?_
 rw [q03]
 unfold q3r
 by_cases hb : v.b = false
 ·by_cases hi : v.i = 0
  ·by_cases hs : v.s = ⟨#[]⟩
   ·by_cases hk : v.keys = []
    ·simp [q01, -Option.bind_some, -Int.toNat_lt, -List.map_map, List.range_succ, h, hb, hi, hs, hk]
    ·simp [q01, -Option.bind_some, -Int.toNat_lt, -List.map_map, List.range_succ, h, hb, hi, hs, hk]
   ·simp [q01, -Option.bind_some, -Int.toNat_lt, -List.map_map, List.range_succ, h, hb, hi, hs]
  ·simp [q01, -Option.bind_some, -Int.toNat_lt, -List.map_map, List.range_succ, h, hb, hi]
 ·simp [q01, -Option.bind_some, -Int.toNat_lt, -List.map_map, List.range_succ, h, hb]
end Go.Proofs.YtdjomefkhdimaaaGreat
namespace Go.Proofs.YtdjomefkhdimaaaGreat
open Go
set_option maxRecDepth 10000
set_option maxHeartbeats 8000000
set_option linter.unusedSimpArgs false
theorem rzero_ev7 (v : Vl) (h : v.kind = 7) : evA 94 [.agg (valC v)] (.bool (q3r v)) := by
 refine q00 (c := q01) rfl rfl ?_
 rw [q03]
 unfold q3r
 by_cases hb : v.b = false
 ·by_cases hi : v.i = 0
  ·by_cases hs : v.s = ⟨#[]⟩
   ·by_cases hd : v.id = 0
    ·by_cases hk : v.keys = []
     ·by_cases hr : v.rest = []
      ·simp [q01, -Option.bind_some, -Int.toNat_lt, -List.map_map, List.range_succ, h, hb, hi, hs, hd, hk, hr]
      ·simp [q01, -Option.bind_some, -Int.toNat_lt, -List.map_map, List.range_succ, h, hb, hi, hs, hd, hk, hr]
     ·simp [q01, -Option.bind_some, -Int.toNat_lt, -List.map_map, List.range_succ, h, hb, hi, hs, hd, hk]
    ·simp [q01, -Option.bind_some, -Int.toNat_lt, -List.map_map, List.range_succ, h, hb, hi, hs, hd]
   ·simp [q01, -Option.bind_some, -Int.toNat_lt, -List.map_map, List.range_succ, h, hb, hi, hs]
  ·simp [q01, -Option.bind_some, -Int.toNat_lt, -List.map_map, List.range_succ, h, hb, hi]
 ·simp [q01, -Option.bind_some, -Int.toNat_lt, -List.map_map, List.range_succ, h, hb]
theorem rzero_ev8 (v : Vl) (h : v.kind = 8) : evA 94 [.agg (valC v)] (.bool (q3r v)) := by
 refine q00 (c := q01) rfl rfl ?_
 rw [q03]
 unfold q3r
 by_cases hb : v.b = false
 ·by_cases hi : v.i = 0
  ·by_cases hs : v.s = ⟨#[]⟩
   ·by_cases hd : v.id = 0
    ·by_cases hr : v.rest = []
     ·simp [q01, -Option.bind_some, -Int.toNat_lt, -List.map_map, List.range_succ, h, hb, hi, hs, hd, hr]
     ·simp [q01, -Option.bind_some, -Int.toNat_lt, -List.map_map, List.range_succ, h, hb, hi, hs, hd, hr]
    ·simp [q01, -Option.bind_some, -Int.toNat_lt, -List.map_map, List.range_succ, h, hb, hi, hs, hd]
   ·simp [q01, -Option.bind_some, -Int.toNat_lt, -List.map_map, List.range_succ, h, hb, hi, hs]
  ·simp [q01, -Option.bind_some, -Int.toNat_lt, -List.map_map, List.range_succ, h, hb, hi]
 ·simp [q01, -Option.bind_some, -Int.toNat_lt, -List.map_map, List.range_succ, h, hb]
theorem rzero_ev9 (v : Vl) (h : v.kind = 9) : evA 94 [.agg (valC v)] (.bool (q3r v)) := by
 refine q00 (c := q01) rfl rfl ?_
 rw [q03]
 unfold q3r
 by_cases hb : v.b = false
 ·by_cases hi : v.i = 0
  ·by_cases hs : v.s = ⟨#[]⟩
   ·by_cases hd : v.id = 0
    ·by_cases hk : v.keys = []
     ·by_cases hr : v.rest = []
      ·simp [q01, -Option.bind_some, -Int.toNat_lt, -List.map_map, List.range_succ, h, hb, hi, hs, hd, hk, hr]
      ·simp [q01, -Option.bind_some, -Int.toNat_lt, -List.map_map, List.range_succ, h, hb, hi, hs, hd, hk, hr]
     ·simp [q01, -Option.bind_some, -Int.toNat_lt, -List.map_map, List.range_succ, h, hb, hi, hs, hd, hk]
    ·simp [q01, -Option.bind_some, -Int.toNat_lt, -List.map_map, List.range_succ, h, hb, hi, hs, hd]
   ·simp [q01, -Option.bind_some, -Int.toNat_lt, -List.map_map, List.range_succ, h, hb, hi, hs]
  ·simp [q01, -Option.bind_some, -Int.toNat_lt, -List.map_map, List.range_succ, h, hb, hi]
 ·simp [q01, -Option.bind_some, -Int.toNat_lt, -List.map_map, List.range_succ, h, hb]
end Go.Proofs.YtdjomefkhdimaaaGreat
namespace Go.Proofs.YtdjomefkhdimaaaGreat
open Go
set_option maxRecDepth 10000
set_option maxHeartbeats 8000000
set_option linter.unusedSimpArgs false
theorem fits_ev1 (sn : Bool) (S : List Typ) (t : Int) (x : Typ) (v : Vl) (f : Int -> Vl -> Bool) (h0 : 0 <= t) (ht1 : ¬ (S.length : Int) <= t) (g : (S.map typC)[t.toNat]? = some (typC x)) (hk : x.kind = 1) (hv : v.kind = 1) (hp : evA 109 [.agg (valC v)] (.bool true)) : evA 82 [schA sn S, .int .i64 t, .agg (valC v), .bool true] (.bool (true)) := by
 have ht0 : ¬ t < 0 := by omega
 simp only [evA, typC, q03, hk, hv] at hp g
 refine q00 (c := q06) rfl rfl ?_
 rw [q03]
 simp [q06, -Option.bind_some, -Int.toNat_lt, -List.map_map, List.range_succ, ht0, ht1, h0, g, hp, hk, hv]
theorem fits_ev2 (sn : Bool) (S : List Typ) (t : Int) (x : Typ) (v : Vl) (f : Int -> Vl -> Bool) (h0 : 0 <= t) (ht1 : ¬ (S.length : Int) <= t) (g : (S.map typC)[t.toNat]? = some (typC x)) (hk : x.kind = 2) (hv : v.kind = 2) (hp : evA 109 [.agg (valC v)] (.bool true)) : evA 82 [schA sn S, .int .i64 t, .agg (valC v), .bool true] (.bool (decide (x.low <= v.i) && decide (v.i <= x.high))) := by
 have ht0 : ¬ t < 0 := by omega
 simp only [evA, typC, q03, hk, hv] at hp g
 refine q00 (c := q06) rfl rfl ?_
 rw [q03]
 by_cases c1 : x.low <= v.i
 ·simp [q06, -Option.bind_some, -Int.toNat_lt, -List.map_map, List.range_succ, ht0, ht1, h0, g, hp, hk, hv, c1]
 ·simp [q06, -Option.bind_some, -Int.toNat_lt, -List.map_map, List.range_succ, ht0, ht1, h0, g, hp, hk, hv, c1]
theorem fits_ev3 (sn : Bool) (S : List Typ) (t : Int) (x : Typ) (v : Vl) (f : Int -> Vl -> Bool) (h0 : 0 <= t) (ht1 : ¬ (S.length : Int) <= t) (g : (S.map typC)[t.toNat]? = some (typC x)) (hk : x.kind = 3) (hv : v.kind = 3) (hp : evA 109 [.agg (valC v)] (.bool true)) : evA 82 [schA sn S, .int .i64 t, .agg (valC v), .bool true] (.bool (decide ((v.s.size : Int) <= x.max))) := by
 have ht0 : ¬ t < 0 := by omega
 simp only [evA, typC, q03, hk, hv] at hp g
 refine q00 (c := q06) rfl rfl ?_
 rw [q03]
 simp [q06, -Option.bind_some, -Int.toNat_lt, -List.map_map, List.range_succ, ht0, ht1, h0, g, hp, hk, hv]
theorem fits_ev4 (sn : Bool) (S : List Typ) (t : Int) (x : Typ) (v : Vl) (f : Int -> Vl -> Bool) (h0 : 0 <= t) (ht1 : ¬ (S.length : Int) <= t) (g : (S.map typC)[t.toNat]? = some (typC x)) (hk : x.kind = 4) (hv : v.kind = 4) (hp : evA 109 [.agg (valC v)] (.bool true)) (hs : evA 110 [.agg (typC x), .int .i64 v.id] (symA x.syms v.id)) : evA 82 [schA sn S, .int .i64 t, .agg (valC v), .bool true] (.bool (decide (0 <= symIx x.syms v.id))) := by
 have ht0 : ¬ t < 0 := by omega
 simp only [evA, typC, q03, hk, hv] at hp g
 refine q00 (c := q06) rfl rfl ?_
 rw [q03]
 simp only [evA, typC, symA, hk] at hs
 generalize symIx x.syms v.id = ix at *
 by_cases c1 : 0 <= ix
 ·simp only [c1, decide_true] at hs
  simp [q06, -Option.bind_some, -Int.toNat_lt, -List.map_map, List.range_succ, ht0, ht1, h0, g, hp, hk, hv, hs, c1]
 ·simp only [c1, decide_false] at hs
  cases ho : x.opn <;> simp only [ho] at hs g
  ·simp [q06, -Option.bind_some, -Int.toNat_lt, -List.map_map, List.range_succ, ht0, ht1, h0, g, hp, hk, hv, hs, c1, ho]
  ·simp [q06, -Option.bind_some, -Int.toNat_lt, -List.map_map, List.range_succ, ht0, ht1, h0, g, hp, hk, hv, hs, c1, ho]
theorem fits_ev7 (sn : Bool) (S : List Typ) (t : Int) (x : Typ) (v : Vl) (f : Int -> Vl -> Bool) (h0 : 0 <= t) (ht1 : ¬ (S.length : Int) <= t) (g : (S.map typC)[t.toNat]? = some (typC x)) (hk : x.kind = 7) (hv : v.kind = 7) (hp : evA 109 [.agg (valC v)] (.bool true)) (he : evA 113 [schA sn S, .int .i64 x.elem, .sl v.xn (v.items.map valC), .bool true] (.bool (v.items.all (f x.elem)))) : evA 82 [schA sn S, .int .i64 t, .agg (valC v), .bool true] (.bool (decide ((v.items.length : Int) <= x.max) && v.items.all (f x.elem))) := by
 have ht0 : ¬ t < 0 := by omega
 simp only [evA, typC, q03, hk, hv] at hp g
 refine q00 (c := q06) rfl rfl ?_
 rw [q03]
 simp only [evA] at he
 generalize v.items.all (f x.elem) = E at *
 by_cases c1 : (v.items.length : Int) <= x.max
 ·simp [q06, -Option.bind_some, -Int.toNat_lt, -List.map_map, List.range_succ, ht0, ht1, h0, g, hp, hk, hv, c1, he]
 ·simp [q06, -Option.bind_some, -Int.toNat_lt, -List.map_map, List.range_succ, ht0, ht1, h0, g, hp, hk, hv, c1]
theorem fits_ev9 (sn : Bool) (S : List Typ) (t : Int) (x : Typ) (v : Vl) (f : Int -> Vl -> Bool) (h0 : 0 <= t) (ht1 : ¬ (S.length : Int) <= t) (g : (S.map typC)[t.toNat]? = some (typC x)) (hk : x.kind = 9) (hv : v.kind = 9) (hp : evA 109 [.agg (valC v)] (.bool true)) (he : evA 113 [schA sn S, .int .i64 x.elem, .sl v.xn (v.items.map valC), .bool true] (.bool (v.items.all (f x.elem)))) : evA 82 [schA sn S, .int .i64 t, .agg (valC v), .bool true] (.bool (decide (v.items.length <= 1) && v.items.all (f x.elem))) := by
 have ht0 : ¬ t < 0 := by omega
 simp only [evA, typC, q03, hk, hv] at hp g
 refine q00 (c := q06) rfl rfl ?_
 rw [q03]
 simp only [evA] at he
 generalize v.items.all (f x.elem) = E at *
 by_cases c1 : v.items.length <= 1
 ·have c2 : (v.items.length : Int) <= 1 := by omega
  simp [q06, -Option.bind_some, -Int.toNat_lt, -List.map_map, List.range_succ, ht0, ht1, h0, g, hp, hk, hv, c1, c2, he]
 ·have c2 : ¬ (v.items.length : Int) <= 1 := by omega
  simp [q06, -Option.bind_some, -Int.toNat_lt, -List.map_map, List.range_succ, ht0, ht1, h0, g, hp, hk, hv, c1, c2]
end Go.Proofs.YtdjomefkhdimaaaGreat
namespace Go.Proofs.YtdjomefkhdimaaaGreat
open Go
set_option maxRecDepth 10000
set_option maxHeartbeats 8000000
set_option linter.unusedSimpArgs false
theorem fits_ev5 (sn : Bool) (S : List Typ) (t : Int) (x : Typ) (v : Vl) (f : Int -> Vl -> Bool) (h0 : 0 <= t) (ht1 : ¬ (S.length : Int) <= t) (g : (S.map typC)[t.toNat]? = some (typC x)) (hk : x.kind = 5) (hv : v.kind = 5) (hp : evA 109 [.agg (valC v)] (.bool true)) (hml : x.mems.length <= 9223372036854775807) (hf : ∀ m ∈ x.mems, ∀ u ∈ v.items, evA 82 [schA sn S, .int .i64 m.ty, .agg (valC u), .bool true] (.bool (f m.ty u))) : evA 82 [schA sn S, .int .i64 t, .agg (valC v), .bool true] (.bool (decide (v.items.length = x.mems.length) && v.rest.isEmpty && q3Y f x.mems v.items)) := by
 have ht0 : ¬ t < 0 := by omega
 simp only [evA, typC, q03, hk, hv] at hp g
 refine q00 (c := q06) rfl rfl ?_
 rw [q03]
 by_cases c1 : v.items.length = x.mems.length
 ·by_cases c2 : v.rest = []
  case neg =>
   have c2' : 0 < v.rest.length := by
    have : v.rest.length ≠ 0 := fun h => c2 (List.eq_nil_of_length_eq_zero h)
    omega
   simp [q06, -Option.bind_some, -Int.toNat_lt, -List.map_map, List.range_succ, ht0, ht1, h0, g, hp, hk, hv, c1, c2, c2']
  rw [c2] at hp ⊢
  simp only [List.map_nil] at hp
  simp [q06, -Option.bind_some, -Int.toNat_lt, -List.map_map, List.range_succ, ht0, ht1, h0, g, hp, hk, hv, c1, c2]
  refine q05 ?_
  simp [q5K, -Option.bind_some, -Int.toNat_lt, -List.map_map, List.range_succ]
  refine q0h x.mems.length (fun i s => (s.env 3).v = .bool true /\ (s.env 4).v = .ptr 4 1 0 /\ s.mem 4 1 = some [⟨.sl sn (S.map typC), .no⟩] /\ (s.env 6).v = .ptr 6 1 0 /\ s.mem 6 1 = some ([⟨.int .i64 5, .no⟩, ⟨.bool v.b, .no⟩, ⟨.int .i64 v.i, .no⟩, ⟨.str v.s, .no⟩, ⟨.int .i64 v.id, .no⟩, ⟨.sl v.kn (v.keys.map valC), .no⟩, ⟨.sl v.xn (v.items.map valC), .no⟩, ⟨.sl v.rn [], .no⟩]) /\ (s.env 150).v = .sl x.mn (x.mems.map memC) /\ (s.env 151).v = .int .i64 x.mems.length /\ (s.env 152).v = .int .i64 i /\ q3Y f (x.mems.drop i) (v.items.drop i) = q3Y f x.mems v.items)
   (fun e s => (e = .exit 3 /\ q3Y f x.mems v.items = true) \/ (e = .ret /\ q3Y f x.mems v.items = false /\ (s.env 8).v = .bool false)) (fun i hi s k h ih hk' => ?_) _ _ ?_ (fun e s h => ?_)
  ·obtain ⟨e3, e4, m4, e6, m6, e150, e151, e152, hs⟩ := h
   refine q05 ?_
   by_cases hlt : i < x.mems.length
   ·have hlt' : (i : Int) < x.mems.length := by omega
    have hlt2 : i < v.items.length := by omega
    have g1 : (x.mems.map memC)[i]? = some (memC x.mems[i]) := by simp [hlt]
    have g2 : (v.items.map valC)[i]? = some (valC v.items[i]) := by simp [hlt2]
    have hw := q1d (i := i) (by omega)
    have hx := hf x.mems[i] (List.getElem_mem _) v.items[i] (List.getElem_mem _)
    rw [List.drop_eq_getElem_cons hlt, List.drop_eq_getElem_cons hlt2, q3Y] at hs
    generalize x.mems[i] = m at *
    generalize v.items[i] = u at *
    simp only [evA, memC, q03] at g1 g2 hx
    cases hfu : f m.ty u with
    | true =>
     rw [hfu] at hx hs
     simp [q3k, -Option.bind_some, -Int.toNat_lt, -List.map_map, List.range_succ, e3, e4, m4, e6, m6, e150, e151, e152, hlt', g1, g2, hx, hw]
     refine ih hlt _ ⟨?_, ?_, ?_, ?_, ?_, ?_, ?_, ?_, by simpa using hs⟩ <;> simp [e3, e4, m4, e6, m6, e150, e151]
    | false =>
     rw [hfu] at hx hs
     simp [q3k, -Option.bind_some, -Int.toNat_lt, -List.map_map, List.range_succ, e3, e4, m4, e6, m6, e150, e151, e152, hlt', g1, g2, hx]
     exact hk' _ _ (.inr ⟨rfl, by rw [<- hs]; rfl, by simp⟩)
   ·have hlt' : ¬ (i : Int) < x.mems.length := by omega
    simp [q3k, -Option.bind_some, -Int.toNat_lt, -List.map_map, List.range_succ, e151, e152, hlt']
    rw [List.drop_eq_nil_of_le (by omega), q3Y] at hs
    ·exact hk' _ _ (.inl ⟨rfl, hs.symm⟩)
    ·intro m r v' q h; cases h
  ·simp [-Option.bind_some, -Int.toNat_lt, -List.map_map, List.range_succ]
  ·rcases h with ⟨rfl, h1⟩ | ⟨rfl, h1, h2⟩
   ·simp [-Option.bind_some, -Int.toNat_lt, -List.map_map, List.range_succ, h1]
   ·simp [-Option.bind_some, -Int.toNat_lt, -List.map_map, List.range_succ, h1, h2]
 ·have c1' : ¬ (v.items.length : Int) = x.mems.length := by omega
  simp [q06, -Option.bind_some, -Int.toNat_lt, -List.map_map, List.range_succ, ht0, ht1, h0, g, hp, hk, hv, c1, c1']
theorem fits_ev6 (sn : Bool) (S : List Typ) (t : Int) (x : Typ) (v : Vl) (f : Int -> Vl -> Bool) (h0 : 0 <= t) (ht1 : ¬ (S.length : Int) <= t) (g : (S.map typC)[t.toNat]? = some (typC x)) (hk : x.kind = 6) (hv : v.kind = 6) (hp : evA 109 [.agg (valC v)] (.bool true)) (hm : evA 112 [.agg (typC x), .int .i64 v.id] (memA x.mems v.id)) (hf : ∀ m ∈ x.mems, ∀ u ∈ v.items, evA 82 [schA sn S, .int .i64 m.ty, .agg (valC u), .bool true] (.bool (f m.ty u))) : evA 82 [schA sn S, .int .i64 t, .agg (valC v), .bool true] (.bool (q49 f x.mems[(q4Y x.mems v.id).toNat]? (decide (0 <= q4Y x.mems v.id)) v.rest.isEmpty v.items)) := by
 have ht0 : ¬ t < 0 := by omega
 simp only [evA, typC, q03, hk, hv] at hp g
 refine q00 (c := q06) rfl rfl ?_
 rw [q03]
 simp only [evA, typC, memA, hk] at hm
 have hix := idxI_some (fun m : Mem => decide (m.id = v.id)) x.mems
 have hge := q2W (fun m : Mem => decide (m.id = v.id)) x.mems
 change q4Y x.mems v.id ≠ -1 -> _ at hix
 change -1 <= q4Y x.mems v.id at hge
 change ∀ h : q4Y x.mems v.id ≠ -1, ∃ y, x.mems[(q4Y x.mems v.id).toNat]? = some y /\ _ at hix
 generalize q4Y x.mems v.id = ix at *
 by_cases c1 : 0 <= ix
 ·simp only [c1, decide_true] at hm
  obtain ⟨m, hm1, _⟩ := hix (by omega)
  have hmx : max ix 0 = ix := Int.max_eq_left c1
  rw [hmx] at hm
  have g2 : (x.mems.map memC)[ix.toNat]? = some (memC m) := by rw [List.getElem?_map, hm1]; rfl
  simp only [memC] at g2
  rw [hm1]
  by_cases c2 : v.items.length = 1
  ·obtain ⟨u, hu⟩ := List.length_eq_one_iff.1 c2
   have hf := hf m (List.mem_of_getElem? hm1) u (by rw [hu]; simp)
   simp only [evA, q03] at hf
   rw [hu] at hp ⊢
   simp only [q03, List.map_cons, List.map_nil] at hp
   by_cases c3 : v.rest = []
   ·rw [c3] at hp ⊢
    simp only [List.map_nil] at hp
    simp [q06, -Option.bind_some, -Int.toNat_lt, -List.map_map, List.range_succ, ht0, ht1, h0, g, hp, hk, hv, hm, g2, c1, hf, q03, q49]
   ·simp [q06, -Option.bind_some, -Int.toNat_lt, -List.map_map, List.range_succ, ht0, ht1, h0, g, hp, hk, hv, hm, g2, c1, c3, q03, q49]
  ·have c2' : ¬ (v.items.length : Int) = 1 := by omega
   rw [q83 _ _ _ _ _ c2]
   simp [q06, -Option.bind_some, -Int.toNat_lt, -List.map_map, List.range_succ, ht0, ht1, h0, g, hp, hk, hv, hm, g2, c1, c2']
 ·simp only [c1, decide_false] at hm
  rw [decide_eq_false c1, unionFit_no]
  cases ho : x.opn <;> simp only [ho] at hm g
  ·simp [q06, -Option.bind_some, -Int.toNat_lt, -List.map_map, List.range_succ, ht0, ht1, h0, g, hp, hk, hv, hm, ho]
  ·simp [q06, -Option.bind_some, -Int.toNat_lt, -List.map_map, List.range_succ, ht0, ht1, h0, g, hp, hk, hv, hm, ho]
theorem fits_ev8 (sn : Bool) (S : List Typ) (t : Int) (x : Typ) (v : Vl) (f : Int -> Vl -> Bool) (h0 : 0 <= t) (ht1 : ¬ (S.length : Int) <= t) (g : (S.map typC)[t.toNat]? = some (typC x)) (hk : x.kind = 8) (hv : v.kind = 8) (hp : evA 109 [.agg (valC v)] (.bool true)) (hr : v.rest = []) (hmx : x.max <= 50) (hi64 : ∀ k ∈ v.keys, i64R k.i) (he : evA 113 [schA sn S, .int .i64 x.elem, .sl v.xn (v.items.map valC), .bool true] (.bool (v.items.all (f x.elem)))) (hke : evA 113 [schA sn S, .int .i64 x.key, .sl v.kn (v.keys.map valC), .bool true] (.bool (v.keys.all (f x.key)))) : evA 82 [schA sn S, .int .i64 t, .agg (valC v), .bool true] (.bool (decide ((v.keys.length : Int) <= x.max) && decide (v.items.length = v.keys.length) && v.keys.all (f x.key) && ascV v.keys && v.items.all (f x.elem))) := by
 have ht0 : ¬ t < 0 := by omega
 simp only [evA, typC, q03, hk, hv] at hp g
 refine q00 (c := q06) rfl rfl ?_
 rw [q03]
 simp only [hr, List.map_nil] at hp ⊢
 simp only [evA] at he hke
 generalize v.items.all (f x.elem) = E at *
 generalize v.keys.all (f x.key) = KE at *
 by_cases c1 : x.max < v.keys.length
 ·have c1' : ¬ (v.keys.length : Int) <= x.max := by omega
  simp [q06, -Option.bind_some, -Int.toNat_lt, -List.map_map, List.range_succ, ht0, ht1, h0, g, hp, hk, hv, hr, c1, c1']
 have c1' : (v.keys.length : Int) <= x.max := by omega
 have hkl : v.keys.length <= 50 := by omega
 by_cases c2 : v.items.length = v.keys.length
 case neg =>
  have c2' : ¬ (v.items.length : Int) = v.keys.length := by omega
  simp [q06, -Option.bind_some, -Int.toNat_lt, -List.map_map, List.range_succ, ht0, ht1, h0, g, hp, hk, hv, hr, c1, c1', c2, c2']
 cases KE with
 | false => simp [q06, -Option.bind_some, -Int.toNat_lt, -List.map_map, List.range_succ, ht0, ht1, h0, g, hp, hk, hv, hr, c1, c1', c2, hke]
 | true =>
  simp [q06, -Option.bind_some, -Int.toNat_lt, -List.map_map, List.range_succ, ht0, ht1, h0, g, hp, hk, hv, hr, c1, c1', c2, hke]
  refine q0h (v.keys.length - 1) (fun i s => (s.env 3).v = .bool true /\ (s.env 4).v = .ptr 4 1 0 /\ s.mem 4 1 = some [⟨.sl sn (S.map typC), .no⟩] /\ (s.env 9).v = .ptr 9 3 0 /\ s.mem 9 3 = some (q1E x) /\ (s.env 6).v = .ptr 6 1 0 /\ s.mem 6 1 = some (valRow v) /\ (s.env 20).v = .int .i64 ((i + 1 : Nat) : Int) /\ ascV (v.keys.drop i) = ascV v.keys)
   (fun e s => (e = .exit 5 /\ ascV v.keys = true /\ (s.env 3).v = .bool true /\ (s.env 4).v = .ptr 4 1 0 /\ s.mem 4 1 = some [⟨.sl sn (S.map typC), .no⟩] /\ (s.env 9).v = .ptr 9 3 0 /\ s.mem 9 3 = some (q1E x) /\ (s.env 6).v = .ptr 6 1 0 /\ s.mem 6 1 = some (valRow v)) \/ (e = .ret /\ ascV v.keys = false /\ (s.env 8).v = .bool false)) (fun i hi s k h ih hk' => ?_) _ _ ?_ (fun e s h => ?_)
  ·obtain ⟨e3, e4, m4, e9, m9, e6, m6, e20, hs⟩ := h
   refine q05 ?_
   by_cases hlt : i < v.keys.length - 1
   ·have hl1 : i < v.keys.length := by omega
    have hl2 : i + 1 < v.keys.length := by omega
    have hx := vcmp_ev v.keys[i] v.keys[i + 1] (hi64 _ (List.getElem_mem _)) (hi64 _ (List.getElem_mem _))
    have g1 : (v.keys.map valC)[i]? = some (valC v.keys[i]) := by simp [hl1]
    have g2 : (v.keys.map valC)[i + 1]? = some (valC v.keys[i + 1]) := by simp [hl2]
    rw [List.drop_eq_getElem_cons hl1, List.drop_eq_getElem_cons hl2, ascV] at hs
    have hs' : (decide (vcmp v.keys[i] v.keys[i + 1] < 0) && ascV (v.keys.drop (i + 1))) = ascV v.keys := by rw [<- hs, List.drop_eq_getElem_cons hl2]
    clear hs
    generalize v.keys[i] = a at *
    generalize v.keys[i + 1] = b at *
    obtain ⟨z, hz⟩ : ∃ z : Int, z = ((i + 1 : Nat) : Int) := ⟨_, rfl⟩
    obtain ⟨y, hy⟩ : ∃ y : Int, y = (i : Int) := ⟨_, rfl⟩
    rw [<- hz] at e20
    have hz0 : 0 <= z := by omega
    have hy0 : 0 <= y := by omega
    have hlz : z < v.keys.length := by omega
    have hwm : IntKind.i64.wrap (z - 1) = y := by rw [IntWalk.i64_in _ (by omega)]; omega
    have hwz : IntKind.i64.wrap (z + 1) = ((i + 1 + 1 : Nat) : Int) := by rw [IntWalk.i64_in _ (by omega)]; omega
    rw [show i = y.toNat from by omega] at g1
    rw [show i + 1 = z.toNat from by omega] at g2
    simp only [evA, q03] at g1 g2 hx
    by_cases hc : vcmp a b < 0
    ·have hc' : ¬ 0 <= vcmp a b := by omega
     simp [q33, -Option.bind_some, -Int.toNat_lt, -List.map_map, List.range_succ, e6, m6, e20, hlz, hz0, hy0, hwm, g1, g2, hx, hc', hwz]
     refine ih hlt _ ⟨?_, ?_, ?_, ?_, ?_, ?_, ?_, ?_, by rw [<- hs', decide_eq_true hc]; rfl⟩ <;> simp [e6, m6, e3, e4, m4, e9, m9]
    ·have hc' : 0 <= vcmp a b := by omega
     simp [q33, -Option.bind_some, -Int.toNat_lt, -List.map_map, List.range_succ, e6, m6, e20, hlz, hz0, hy0, hwm, g1, g2, hx, hc']
     exact hk' _ _ (.inr ⟨rfl, by rw [<- hs', decide_eq_false hc]; rfl, by simp⟩)
   ·obtain ⟨z, hz⟩ : ∃ z : Int, z = ((i + 1 : Nat) : Int) := ⟨_, rfl⟩
    rw [<- hz] at e20
    have hlz : ¬ z < v.keys.length := by omega
    have hasc : ascV (v.keys.drop i) = true := by
     match hd : v.keys.drop i with
     | [] => rfl
     | [_] => rfl
     | a :: b :: r => have := congrArg List.length hd; simp at this; omega
    rw [hasc] at hs
    simp [q33, -Option.bind_some, -Int.toNat_lt, -List.map_map, List.range_succ, e6, m6, e20, hlz]
    exact hk' _ _ (.inl ⟨rfl, hs.symm, by simp [e3], by simp [e4], by simp [m4], by simp [e9], by simp [m9], by simp [e6], by simp [m6]⟩)
  ·simp [hk, hv, hr]
  ·rcases h with ⟨rfl, h1, e3, e4, m4, e9, m9, e6, m6⟩ | ⟨rfl, h1, h2⟩
   ·simp [-Option.bind_some, -Int.toNat_lt, -List.map_map, List.range_succ, h1, e3, e4, m4, e9, m9, e6, m6, he, hk]
   ·simp [-Option.bind_some, -Int.toNat_lt, -List.map_map, List.range_succ, h1, h2]
end Go.Proofs.YtdjomefkhdimaaaGreat
namespace Go.Proofs.YtdjomefkhdimaaaGreat
open Go
set_option maxRecDepth 10000
set_option maxHeartbeats 8000000
set_option linter.unusedSimpArgs false
def goodS (S : List Typ) : Prop := ∀ x ∈ S, q25 x = true /\ x.fine
theorem good_max {x : Typ} (h : q25 x = true) (hk : x.kind = 8) : x.max <= 50 := by
 unfold q25 typOk at h
 simp [hk] at h
 omega
theorem rest_fit (f : Int -> Vl -> Bool) (x : Typ) (v : Vl) (hk : v.kind = x.kind) (hz : q3r v = true) (hr : v.rest ≠ []) : fitK f x v = false := by
 have hre : v.rest.isEmpty = false := by simpa using hr
 by_cases h5 : x.kind = 5
 ·simp [fitK, h5, hre]
 ·by_cases h6 : x.kind = 6
  ·simp [fitK, h6, hre, unionFit_re]
  ·simp [q3r, hk, h5, h6, hr] at hz
theorem fits_evO (sn : Bool) (S : List Typ) (t : Int) (v : Vl) (h : q0I S.length t = true) : evA 82 [schA sn S, .int .i64 t, .agg (valC v), .bool true] (.bool false) := by
 refine q00 (c := q06) rfl rfl ?_
 rw [q03]
 by_cases h0 : t < 0
 ·simp [q06, -Option.bind_some, -Int.toNat_lt, -List.map_map, List.range_succ, h0]
 ·have h1 : (S.length : Int) <= t := by simpa [q0I, h0] using h
  simp [q06, -Option.bind_some, -Int.toNat_lt, -List.map_map, List.range_succ, h0, h1]
theorem fits_evK (sn : Bool) (S : List Typ) (t : Int) (x : Typ) (v : Vl) (h0 : 0 <= t) (ht1 : ¬ (S.length : Int) <= t) (g : (S.map typC)[t.toNat]? = some (typC x)) (hk : ¬ v.kind = x.kind) : evA 82 [schA sn S, .int .i64 t, .agg (valC v), .bool true] (.bool false) := by
 have ht0 : ¬ t < 0 := by omega
 simp only [typC] at g
 refine q00 (c := q06) rfl rfl ?_
 rw [q03]
 simp [q06, -Option.bind_some, -Int.toNat_lt, -List.map_map, List.range_succ, ht0, ht1, h0, g, hk]
theorem fits_evZ (sn : Bool) (S : List Typ) (t : Int) (x : Typ) (v : Vl) (h0 : 0 <= t) (ht1 : ¬ (S.length : Int) <= t) (g : (S.map typC)[t.toNat]? = some (typC x)) (hk : v.kind = x.kind) (hp : evA 109 [.agg (valC v)] (.bool false)) : evA 82 [schA sn S, .int .i64 t, .agg (valC v), .bool true] (.bool false) := by
 have ht0 : ¬ t < 0 := by omega
 simp only [evA, typC, q03, hk] at hp g
 refine q00 (c := q06) rfl rfl ?_
 rw [q03]
 simp [q06, -Option.bind_some, -Int.toNat_lt, -List.map_map, List.range_succ, ht0, ht1, h0, g, hp, hk]
theorem fits_ev (sn : Bool) (S : List Typ) (hS : goodS S) : ∀ (n : Nat) (t : Int) (v : Vl), SizeOf.sizeOf v < n -> v.ok -> v.i64 -> evA 82 [schA sn S, .int .i64 t, .agg (valC v), .bool true] (.bool (fitN S n t v)) := by
 intro n
 induction n with
 | zero => intro t v h; omega
 | succ n ih =>
  intro t v hn hok h64
  rw [fitN]
  cases ho : q0I S.length t with
  | true => exact fits_evO sn S t v ho
  | false =>
   obtain ⟨h0, ht1⟩ : 0 <= t /\ ¬ (S.length : Int) <= t := by
    simp [q0I] at ho
    omega
   have hlt : t.toNat < S.length := by omega
   have hmem : S[t.toNat] ∈ S := List.getElem_mem _
   have g : (S.map typC)[t.toNat]? = some (typC S[t.toNat]) := by rw [List.getElem?_map, List.getElem?_eq_getElem hlt]; rfl
   rw [List.getElem?_eq_getElem hlt]
   generalize S[t.toNat] = x at *
   obtain ⟨hgx, hfx⟩ := hS x hmem
   have hkr := q4o hgx
   simp only [Bool.not_false, Bool.true_and]
   by_cases hk : v.kind = x.kind
   case neg => rw [decide_eq_false hk]; exact fits_evK sn S t x v h0 ht1 g hk
   rw [decide_eq_true hk]
   simp only [Bool.true_and]
   have hp := proper_ev v (by rw [hk]; exact hkr)
   cases hz : q3r v with
   | false => rw [hz] at hp; exact fits_evZ sn S t x v h0 ht1 g hk hp
   | true =>
    rw [hz] at hp
    simp only [Bool.true_and]
    rw [Vl.ok_def] at hok
    rw [Vl.i64_def] at h64
    obtain ⟨o1, o2, o3, o4, o5, o6⟩ := hok
    obtain ⟨j1, j2, j3⟩ := h64
    have hit : ∀ u ∈ v.items, ∀ t', evA 82 [schA sn S, .int .i64 t', .agg (valC u), .bool true] (.bool (fitN S n t' u)) := fun u hu t' => ih t' u (by have := Vl.items_lt v u hu; omega) (o6 u hu) (j3 u hu)
    have hke : ∀ u ∈ v.keys, ∀ t', evA 82 [schA sn S, .int .i64 t', .agg (valC u), .bool true] (.bool (fitN S n t' u)) := fun u hu t' => ih t' u (by have := Vl.keys_lt v u hu; omega) (o5 u hu) (j2 u hu)
    have hmlen : x.mems.length <= 9223372036854775807 := hfx.1.2.1
    have hslen : x.syms.length <= 9223372036854775807 := hfx.1.1
    unfold fitK
    have hv := hk
    rcases q8b x.kind with e | e | e | e | e | e | e | e | e | e
    all_goals try rw [e] at hv
    ·have r := fits_ev1 sn S t x v (fitN S n) h0 ht1 g e hv hp; simpa [e] using r
    ·have r := fits_ev2 sn S t x v (fitN S n) h0 ht1 g e hv hp; simpa [e] using r
    ·have r := fits_ev3 sn S t x v (fitN S n) h0 ht1 g e hv hp; simpa [e] using r
    ·have r := fits_ev4 sn S t x v (fitN S n) h0 ht1 g e hv hp (sym_ev x v.id hslen); simpa [e] using r
    ·have r := fits_ev5 sn S t x v (fitN S n) h0 ht1 g e hv hp hmlen (fun m _ u hu => hit u hu m.ty); simpa [e] using r
    ·have r := fits_ev6 sn S t x v (fitN S n) h0 ht1 g e hv hp (mem_ev x v.id hmlen) (fun m _ u hu => hit u hu m.ty); simpa [e] using r
    ·have r := fits_ev7 sn S t x v (fitN S n) h0 ht1 g e hv hp (each_ev sn S x.elem (fitN S n x.elem) v.items o2 v.xn fun u hu => hit u hu x.elem); simpa [e] using r
    ·have r := fits_ev8 sn S t x v (fitN S n) h0 ht1 g e hv hp (by simp [q3r, hv] at hz; simp [hz]) (good_max hgx e) (fun u hu => ((Vl.i64_def u).1 (j2 u hu)).1) (each_ev sn S x.elem (fitN S n x.elem) v.items o2 v.xn fun u hu => hit u hu x.elem) (each_ev sn S x.key (fitN S n x.key) v.keys o1 v.kn fun u hu => hke u hu x.key); simpa [e] using r
    ·have r := fits_ev9 sn S t x v (fitN S n) h0 ht1 g e hv hp (each_ev sn S x.elem (fitN S n x.elem) v.items o2 v.xn fun u hu => hit u hu x.elem); simpa [e] using r
    ·exact absurd hkr e
end Go.Proofs.YtdjomefkhdimaaaGreat
namespace Go.Proofs.YtdjomefkhdimaaaGreat
open Go
set_option maxRecDepth 10000
set_option maxHeartbeats 8000000
set_option linter.unusedSimpArgs false
theorem rzero_ev (v : Vl) (h : 1 <= v.kind /\ v.kind <= 9) : evA 94 [.agg (valC v)] (.bool (q3r v)) := by
 rcases q8b v.kind with e | e | e | e | e | e | e | e | e | e
 ·exact rzero_ev1 v e
 ·exact rzero_ev2 v e
 ·exact rzero_ev3 v e
 ·exact rzero_ev4 v e
 ·exact rzero_ev5 v e
 ·exact rzero_ev6 v e
 ·exact rzero_ev7 v e
 ·exact rzero_ev8 v e
 ·exact rzero_ev9 v e
 ·exact absurd h e
theorem rest_ev (x : Typ) (b : Bool) : evA 97 [.agg (typC x), .sl b []] (.bool true) := by
 refine q00 (c := q4L) rfl rfl ?_
 simp [q4L, -Option.bind_some, -Int.toNat_lt, -List.map_map, List.range_succ, typC]
 refine q0h 0 (fun i s => (s.env 1).v = .sl b [] /\ (s.env 5).v = .int .i64 0) (fun e s => e = .exit 0) (fun i hi s k h ih hk => ?_) _ _ ?_ (fun e s h => ?_)
 ·obtain ⟨e1, e5⟩ := h
  refine q05 ?_
  simp [q62, -Option.bind_some, -Int.toNat_lt, -List.map_map, List.range_succ, e1, e5]
  exact hk _ _ rfl
 ·simp
 ·subst h
  simp [-Option.bind_some, -Int.toNat_lt, -List.map_map, List.range_succ]
theorem fit_evR (sn : Bool) (S : List Typ) (t : Int) (x : Typ) (v : Vl) (h0 : 0 <= t) (ht1 : ¬ (S.length : Int) <= t) (g : (S.map typC)[t.toNat]? = some (typC x)) (hk : v.kind = x.kind) (hp : evA 94 [.agg (valC v)] (.bool true)) (hr : v.rest ≠ []) : evA 77 [schA sn S, .int .i64 t, .agg (valC v), .bool true] (.bool false) := by
 have ht0 : ¬ t < 0 := by omega
 have hr2 : 0 < v.rest.length := by
  have : v.rest.length ≠ 0 := fun h => hr (List.eq_nil_of_length_eq_zero h)
  omega
 simp only [evA, typC, q03, hk] at hp g
 refine q00 (c := q08) rfl rfl ?_
 rw [q03]
 simp [q08, -Option.bind_some, -Int.toNat_lt, -List.map_map, List.range_succ, ht0, ht1, h0, g, hp, hk, hr, hr2]
theorem fit_evO (sn : Bool) (S : List Typ) (t : Int) (v : Vl) (h : q0I S.length t = true) : evA 77 [schA sn S, .int .i64 t, .agg (valC v), .bool true] (.bool false) := by
 refine q00 (c := q08) rfl rfl ?_
 rw [q03]
 by_cases h0 : t < 0
 ·simp [q08, -Option.bind_some, -Int.toNat_lt, -List.map_map, List.range_succ, h0]
 ·have h1 : (S.length : Int) <= t := by simpa [q0I, h0] using h
  simp [q08, -Option.bind_some, -Int.toNat_lt, -List.map_map, List.range_succ, h0, h1]
theorem fit_evK (sn : Bool) (S : List Typ) (t : Int) (x : Typ) (v : Vl) (h0 : 0 <= t) (ht1 : ¬ (S.length : Int) <= t) (g : (S.map typC)[t.toNat]? = some (typC x)) (hk : ¬ v.kind = x.kind) : evA 77 [schA sn S, .int .i64 t, .agg (valC v), .bool true] (.bool false) := by
 have ht0 : ¬ t < 0 := by omega
 simp only [typC] at g
 refine q00 (c := q08) rfl rfl ?_
 rw [q03]
 simp [q08, -Option.bind_some, -Int.toNat_lt, -List.map_map, List.range_succ, ht0, ht1, h0, g, hk]
theorem fit_evZ (sn : Bool) (S : List Typ) (t : Int) (x : Typ) (v : Vl) (h0 : 0 <= t) (ht1 : ¬ (S.length : Int) <= t) (g : (S.map typC)[t.toNat]? = some (typC x)) (hk : v.kind = x.kind) (hp : evA 94 [.agg (valC v)] (.bool false)) : evA 77 [schA sn S, .int .i64 t, .agg (valC v), .bool true] (.bool false) := by
 have ht0 : ¬ t < 0 := by omega
 simp only [evA, typC, q03, hk] at hp g
 refine q00 (c := q08) rfl rfl ?_
 rw [q03]
 simp [q08, -Option.bind_some, -Int.toNat_lt, -List.map_map, List.range_succ, ht0, ht1, h0, g, hp, hk]
theorem fit_ev (sn : Bool) (S : List Typ) (hS : goodS S) : ∀ (n : Nat) (t : Int) (v : Vl), SizeOf.sizeOf v < n -> v.ok -> v.i64 -> evA 77 [schA sn S, .int .i64 t, .agg (valC v), .bool true] (.bool (fitN S n t v)) := by
 intro n
 induction n with
 | zero => intro t v h; omega
 | succ n ih =>
  intro t v hn hok h64
  rw [fitN]
  cases ho : q0I S.length t with
  | true => exact fit_evO sn S t v ho
  | false =>
   obtain ⟨h0, ht1⟩ : 0 <= t /\ ¬ (S.length : Int) <= t := by
    simp [q0I] at ho
    omega
   have hlt : t.toNat < S.length := by omega
   have hmem : S[t.toNat] ∈ S := List.getElem_mem _
   have g : (S.map typC)[t.toNat]? = some (typC S[t.toNat]) := by rw [List.getElem?_map, List.getElem?_eq_getElem hlt]; rfl
   rw [List.getElem?_eq_getElem hlt]
   generalize S[t.toNat] = x at *
   obtain ⟨hgx, hfx⟩ := hS x hmem
   have hkr := q4o hgx
   simp only [Bool.not_false, Bool.true_and]
   by_cases hk : v.kind = x.kind
   case neg => rw [decide_eq_false hk]; exact fit_evK sn S t x v h0 ht1 g hk
   rw [decide_eq_true hk]
   simp only [Bool.true_and]
   have hp := rzero_ev v (by rw [hk]; exact hkr)
   cases hz : q3r v with
   | false => rw [hz] at hp; exact fit_evZ sn S t x v h0 ht1 g hk hp
   | true =>
    rw [hz] at hp
    simp only [Bool.true_and]
    rw [Vl.ok_def] at hok
    rw [Vl.i64_def] at h64
    obtain ⟨o1, o2, o3, o4, o5, o6⟩ := hok
    obtain ⟨j1, j2, j3⟩ := h64
    have hit : ∀ u ∈ v.items, ∀ t', evA 77 [schA sn S, .int .i64 t', .agg (valC u), .bool true] (.bool (fitN S n t' u)) := fun u hu t' => ih t' u (by have := Vl.items_lt v u hu; omega) (o6 u hu) (j3 u hu)
    have hke : ∀ u ∈ v.keys, ∀ t', evA 77 [schA sn S, .int .i64 t', .agg (valC u), .bool true] (.bool (fitN S n t' u)) := fun u hu t' => ih t' u (by have := Vl.keys_lt v u hu; omega) (o5 u hu) (j2 u hu)
    have hmlen : x.mems.length <= 9223372036854775807 := hfx.1.2.1
    have hslen : x.syms.length <= 9223372036854775807 := hfx.1.1
    by_cases hr : v.rest = []
    case neg => rw [rest_fit _ x v hk hz hr]; exact fit_evR sn S t x v h0 ht1 g hk hp hr
    unfold fitK
    have hv := hk
    rcases q8b x.kind with e | e | e | e | e | e | e | e | e | e
    all_goals try rw [e] at hv
    ·have r := fit_ev1 sn S t x v (fitN S n) h0 ht1 g e hv hp hr; simpa [e] using r
    ·have r := fit_ev2 sn S t x v (fitN S n) h0 ht1 g e hv hp hr; simpa [e] using r
    ·have r := fit_ev3 sn S t x v (fitN S n) h0 ht1 g e hv hp hr; simpa [e] using r
    ·have r := fit_ev4 sn S t x v (fitN S n) h0 ht1 g e hv hp hr (rsym_ev x v.id hslen); simpa [e] using r
    ·have r := fit_ev5 sn S t x v (fitN S n) h0 ht1 g e hv hp hr hmlen (rest_ev x v.rn) (fun m _ u hu => hit u hu m.ty); simpa [e, hr] using r
    ·have r := fit_ev6 sn S t x v (fitN S n) h0 ht1 g e hv hp hr (rmem_ev x v.id hmlen) (fun m _ u hu => hit u hu m.ty); simpa [e] using r
    ·have r := fit_ev7 sn S t x v (fitN S n) h0 ht1 g e hv hp hr (all_ev sn S x.elem (fitN S n x.elem) v.items o2 v.xn fun u hu => hit u hu x.elem); simpa [e] using r
    ·have r := fit_ev8 sn S t x v (fitN S n) h0 ht1 g e hv hp hr (good_max hgx e) (fun u hu => ((Vl.i64_def u).1 (j2 u hu)).1) (all_ev sn S x.elem (fitN S n x.elem) v.items o2 v.xn fun u hu => hit u hu x.elem) (all_ev sn S x.key (fitN S n x.key) v.keys o1 v.kn fun u hu => hke u hu x.key); simpa [e] using r
    ·have r := fit_ev9 sn S t x v (fitN S n) h0 ht1 g e hv hp hr (all_ev sn S x.elem (fitN S n x.elem) v.items o2 v.xn fun u hu => hit u hu x.elem); simpa [e] using r
    ·exact absurd hkr e
end Go.Proofs.YtdjomefkhdimaaaGreat
namespace Go.Proofs.YtdjomefkhdimaaaGreat
open Go
set_option maxRecDepth 10000
set_option maxHeartbeats 8000000
set_option linter.unusedSimpArgs false
theorem rnames_lp (sn : Bool) (S : List Typ) (i : Nat) (hiS : i < S.length) (hS : S.length <= 9223372036854775807) (t : Typ) (p : Nat) (r : RV) (P : MSt -> Prop) (hP : ∀ s s' : MSt, s'.mem = s.mem -> s'.obj = s.obj -> (∀ t, t ∉ [2, 5, 27, 28, 29, 30, 31, 32, 33, 34, 35, 36, 37, 38, 39, 40, 41, 42, 43, 44, 45] -> s'.env t = s.env t) -> P s -> P s') (k : Ex -> MSt -> Option RV)
  (hk : ∀ s', ¬ (t.named = true /\ t.name ∈ (S.take i).map Typ.name) -> P s' -> k (.exit 2) s' = some r) (hr : ∀ s' : MSt, t.named = true /\ t.name ∈ (S.take i).map Typ.name -> (s'.env 2).v = .int .i64 1 -> k .ret s' = some r)
  (s : MSt) (hs : P s) (h1 : (s.env 1).v = .ptr 1 1 0) (m1 : s.mem 1 1 = some [⟨.sl sn (S.map typC), .no⟩]) (h3 : (s.env 3).v = .int .i64 i) (h4 : (s.env 4).v = .ptr 4 p 0) (m4 : s.mem 4 p = some (q1E t)) (h5 : (s.env 5).v = .int .i64 0) : evL allT q02 q1m s k = some r := by
 have hnm := q1j t.kind
 change evA _ _ (.bool t.named) at hnm
 simp only [evA] at hnm
 refine q0h i (fun j s => P s /\ (s.env 1).v = .ptr 1 1 0 /\ s.mem 1 1 = some [⟨.sl sn (S.map typC), .no⟩] /\ (s.env 3).v = .int .i64 i /\ (s.env 4).v = .ptr 4 p 0 /\ s.mem 4 p = some (q1E t) /\ (s.env 5).v = .int .i64 j /\ ¬ (t.named = true /\ t.name ∈ (S.take j).map Typ.name))
  (fun e s => (e = .exit 2 /\ ¬ (t.named = true /\ t.name ∈ (S.take i).map Typ.name) /\ P s) \/ (e = .ret /\ (t.named = true /\ t.name ∈ (S.take i).map Typ.name) /\ (s.env 2).v = .int .i64 1)) (fun j hj s k h ih hk => ?_) _ _ ?_ (fun e s h => ?_)
 ·obtain ⟨hp, e1, m1, e3, e4, m4, e5, hs⟩ := h
  refine q05 ?_
  by_cases hlt : j < i
  ·have hlt' : (j : Int) < i := by omega
   have hjS : j < S.length := by omega
   have g1 : (S.map typC)[j]? = some (typC S[j]) := by simp [hjS]
   have hw := q1d (i := j) (by omega)
   have ht : S.take (j + 1) = S.take j ++ [S[j]] := (List.take_append_getElem hjS).symm
   have hmem : S[j] ∈ S.take i := List.mem_take_iff_getElem.2 ⟨j, by omega, rfl⟩
   generalize S[j] = u at *
   simp only [typC] at g1
   have nxt : ∀ s', s'.mem = s.mem -> s'.obj = s.obj -> (∀ t, t ∉ [2, 5, 27, 28, 29, 30, 31, 32, 33, 34, 35, 36, 37, 38, 39, 40, 41, 42, 43, 44, 45] -> s'.env t = s.env t) -> (s'.env 5).v = .int .i64 ((j + 1 : Nat) : Int) -> ¬ (t.named = true /\ u.name = t.name) -> evL allT q02 q1m s' k = some r := fun s' hm ho he h5 hn => by
    refine ih hlt _ ⟨hP s s' hm ho he hp, ?_, ?_, ?_, ?_, ?_, h5, ?_⟩
    ·rw [he 1 (by decide)]; exact e1
    ·rw [hm]; exact m1
    ·rw [he 3 (by decide)]; exact e3
    ·rw [he 4 (by decide)]; exact e4
    ·rw [hm]; exact m4
    ·rw [ht, List.map_append, List.mem_append]
     rintro ⟨h1, h2 | h2⟩
     ·exact hs ⟨h1, h2⟩
     ·simp at h2; exact hn ⟨h1, h2.symm⟩
   cases hb : t.named with
   | false =>
    rw [hb] at hnm
    simp [q1m, -Option.bind_some, -Int.toNat_lt, -List.map_map, List.range_succ, e1, m1, e3, e4, m4, e5, hlt', g1, hnm, hw]
    refine nxt _ rfl rfl ?_ ?_ (by simp [hb])
    ·intro t ht
     simp only [List.mem_cons, List.not_mem_nil, or_false, not_or] at ht
     simp [q2F, ht]
    ·simp
   | true =>
    rw [hb] at hnm
    by_cases hne : u.name = t.name
    ·simp [q1m, -Option.bind_some, -Int.toNat_lt, -List.map_map, List.range_succ, e1, m1, e3, e4, m4, e5, hlt', g1, hnm, hne]
     exact hk _ _ (.inr ⟨rfl, ⟨hb, hne ▸ List.mem_map_of_mem hmem⟩, by simp⟩)
    ·simp [q1m, -Option.bind_some, -Int.toNat_lt, -List.map_map, List.range_succ, e1, m1, e3, e4, m4, e5, hlt', g1, hnm, hne, hw]
     refine nxt _ rfl rfl ?_ ?_ (by simp [hne])
     ·intro t ht
      simp only [List.mem_cons, List.not_mem_nil, or_false, not_or] at ht
      simp [q2F, ht]
     ·simp
  ·have hlt' : ¬ (j : Int) < i := by omega
   have hji : j = i := by omega
   simp [q1m, -Option.bind_some, -Int.toNat_lt, -List.map_map, List.range_succ, e3, e5, hlt']
   refine hk _ _ (.inl ⟨rfl, hji ▸ hs, hP s _ rfl rfl ?_ hp⟩)
   intro t ht
   simp only [List.mem_cons, List.not_mem_nil, or_false, not_or] at ht
   simp [q2F, ht]
 ·simp [hs, h1, m1, h3, h4, m4, h5]
 ·rcases h with ⟨rfl, h1, h2⟩ | ⟨rfl, h1, h2⟩
  ·exact hk s h1 h2
  ·exact hr s h1 h2
theorem rvuses_lp (sn : Bool) (S : List Typ) (U : List Int) (hU : U.length <= 9223372036854775807) (bu : Bool) (r : RV) (P : MSt -> Prop) (hP : ∀ s s' : MSt, s'.mem = s.mem -> s'.obj = s.obj -> (∀ t, t ∉ [2, 7, 48, 49, 50, 51, 52, 53, 54, 55, 56, 57, 58, 59, 60, 61, 62, 63, 64, 65, 66, 67, 68] -> s'.env t = s.env t) -> P s -> P s') (k : Ex -> MSt -> Option RV)
  (hk : ∀ s', U.any (q0I S.length) = false -> P s' -> k (.exit 4) s' = some r) (hr : ∀ s' : MSt, U.any (q0I S.length) = true -> (s'.env 2).v = .int .i64 4 -> k .ret s' = some r)
  (s : MSt) (hs : P s) (h1 : (s.env 1).v = .ptr 1 1 0) (m1 : s.mem 1 1 = some [⟨.sl sn (S.map typC), .no⟩]) (h6 : (s.env 6).v = .sl bu (U.map intC)) (h7 : (s.env 7).v = .int .i64 0) : evL allT q02 q1H s k = some r := by
 refine q0h U.length (fun i s => P s /\ (s.env 1).v = .ptr 1 1 0 /\ s.mem 1 1 = some [⟨.sl sn (S.map typC), .no⟩] /\ (s.env 6).v = .sl bu (U.map intC) /\ (s.env 7).v = .int .i64 i /\ (U.drop i).any (q0I S.length) = U.any (q0I S.length))
  (fun e s => (e = .exit 4 /\ U.any (q0I S.length) = false /\ P s) \/ (e = .ret /\ U.any (q0I S.length) = true /\ (s.env 2).v = .int .i64 4)) (fun i hi s k h ih hk => ?_) _ _ ?_ (fun e s h => ?_)
 ·obtain ⟨hp, e1, m1, e6, e7, hs⟩ := h
  refine q05 ?_
  by_cases hlt : i < U.length
  ·have hlt' : (i : Int) < U.length := by omega
   have g1 : (U.map intC)[i]? = some (intC U[i]) := by simp [hlt]
   have hw := q1d (i := i) (by omega)
   rw [List.drop_eq_getElem_cons hlt, List.any_cons] at hs
   generalize U[i] = u at *
   simp only [intC] at g1
   by_cases c1 : u < 0
   ·simp [q1H, -Option.bind_some, -Int.toNat_lt, -List.map_map, List.range_succ, e1, m1, e6, e7, hlt', g1, c1]
    exact hk _ _ (.inr ⟨rfl, by rw [<- hs]; simp [q0I, c1], by simp⟩)
   by_cases c2 : (S.length : Int) <= u
   ·simp [q1H, -Option.bind_some, -Int.toNat_lt, -List.map_map, List.range_succ, e1, m1, e6, e7, hlt', g1, c1, c2]
    exact hk _ _ (.inr ⟨rfl, by rw [<- hs]; simp [q0I, c2], by simp⟩)
   simp [q1H, -Option.bind_some, -Int.toNat_lt, -List.map_map, List.range_succ, e1, m1, e6, e7, hlt', g1, c1, c2, hw]
   refine ih hlt _ ⟨hP s _ rfl rfl ?_ hp, ?_, ?_, ?_, ?_, ?_⟩
   ·intro t ht
    simp only [List.mem_cons, List.not_mem_nil, or_false, not_or] at ht
    simp [q2F, ht]
   ·simp [e1]
   ·simp [m1]
   ·simp [e6]
   ·simp
   ·rw [<- hs]; simp [q0I, c1, c2]
  ·have hlt' : ¬ (i : Int) < U.length := by omega
   simp [q1H, -Option.bind_some, -Int.toNat_lt, -List.map_map, List.range_succ, e6, e7, hlt']
   rw [List.drop_eq_nil_of_le (by omega)] at hs
   refine hk _ _ (.inl ⟨rfl, hs.symm, hP s _ rfl rfl ?_ hp⟩)
   intro t ht
   simp only [List.mem_cons, List.not_mem_nil, or_false, not_or] at ht
   simp [q2F, ht]
 ·simp [hs, h1, m1, h6, h7]
 ·rcases h with ⟨rfl, h1, h2⟩ | ⟨rfl, h1, h2⟩
  ·exact hk s h1 h2
  ·exact hr s h1 h2
theorem rvalid_ev (s : Sch) (hs : s.fine) : evA 42 [.agg (schC s)] (.int .i64 (valid s.types)) := by
 obtain ⟨hlen, hfine⟩ := hs
 refine q00 (c := q3e) rfl rfl ?_
 unfold valid
 by_cases h32 : 32 < s.types.length
 ·have h32' : (32 : Int) < s.types.length := by omega
  simp [q3e, -Option.bind_some, -Int.toNat_lt, -List.map_map, List.range_succ, schC, h32, h32']
 have h32' : ¬ (32 : Int) < s.types.length := by omega
 simp [q3e, -Option.bind_some, -Int.toNat_lt, -List.map_map, List.range_succ, schC, h32, h32']
 refine q0h s.types.length (fun i σ => (σ.env 1).v = .ptr 1 1 0 /\ σ.mem 1 1 = some [⟨.sl s.nl (s.types.map typC), .no⟩] /\ (σ.env 3).v = .int .i64 i /\ q1q s.types (s.types.length - i) i = q1q s.types s.types.length 0)
  (fun e σ => (e = .exit 0 /\ q1q s.types s.types.length 0 = 0) \/ (e = .ret /\ (σ.env 2).v = .int .i64 (q1q s.types s.types.length 0))) (fun i hi σ k h ih hk => ?_) _ _ ?_ (fun e σ h => ?_)
 ·obtain ⟨e1, m1, e3, hv⟩ := h
  refine q05 ?_
  by_cases hlt : i < s.types.length
  ·have hlt' : (i : Int) < s.types.length := by omega
   have g1 : (s.types.map typC)[i]? = some (typC s.types[i]) := by simp [hlt]
   have hw := q1d (i := i) (by omega)
   have hf := own_ev s.types[i] (hfine _ (List.getElem_mem _))
   have hu := fun h9 : (s.types[i]'hlt).kind <= 9 => ruses_ev (s.types[i]'hlt) (hfine _ (List.getElem_mem hlt)).2.2 h9 _ rfl
   have hml := (hfine _ (List.getElem_mem hlt)).2.2
   rw [q84 hlt] at hv
   generalize s.types[i] = t at *
   have hul : t.usesL.length <= 9223372036854775807 := by
    unfold Typ.usesL
    by_cases h8 : t.kind = 8 <;> by_cases h7 : 7 <= t.kind <;> simp [h8, h7] <;> omega
   simp only [evA, typC] at hf hu
   simp only [typC] at g1
   have err : ∀ σ' n, q1F s.types i t = n -> n ≠ 0 -> (σ'.env 2).v = .int .i64 n -> k .ret σ' = some (.int .i64 (q1q s.types s.types.length 0), none) := fun σ' n h1 h2 h3 => hk _ _ (.inr ⟨rfl, by rw [h3, <- hv, h1, if_neg h2]⟩)
   cases c1 : q25 t with
   | false =>
    rw [c1] at hf
    simp [q2R, -Option.bind_some, -Int.toNat_lt, -List.map_map, List.range_succ, e1, m1, e3, hlt', g1, hf]
    exact err _ 1 (by simp [q1F, c1]) (by decide) (by simp)
   | true =>
    rw [c1] at hf
    have hu := hu (q4o c1).2
    simp [q2R, -Option.bind_some, -Int.toNat_lt, -List.map_map, List.range_succ, e1, m1, e3, hlt', g1, hf]
    refine rnames_lp s.nl s.types i hlt hlen t (σ.next + 1) _ (fun σ2 => (σ2.env 1).v = .ptr 1 1 0 /\ σ2.mem 1 1 = some [⟨.sl s.nl (s.types.map typC), .no⟩] /\ (σ2.env 3).v = .int .i64 i /\ (σ2.env 4).v = .ptr 4 (σ.next + 1) 0 /\ σ2.mem 4 (σ.next + 1) = some (q1E t)) (fun a b hm ho he h => ?_) _ (fun σ2 c2 h => ?_) (fun σ2 c2 h2 => ?_) _ ⟨?_, ?_, ?_, ?_, ?_⟩ ?_ ?_ ?_ ?_ ?_ ?_
    ·rw [hm, he 1 (by decide), he 3 (by decide), he 4 (by decide)]
     exact h
    ·obtain ⟨f1, fm, f3, f4, fp⟩ := h
     simp [-Option.bind_some, -Int.toNat_lt, -List.map_map, List.range_succ, f1, fm, f3, f4, fp, hu]
     refine rvuses_lp s.nl s.types t.usesL hul t.usesL.isEmpty _ (fun σ2 => (σ2.env 1).v = .ptr 1 1 0 /\ σ2.mem 1 1 = some [⟨.sl s.nl (s.types.map typC), .no⟩] /\ (σ2.env 3).v = .int .i64 i /\ (σ2.env 4).v = .ptr 4 (σ.next + 1) 0 /\ σ2.mem 4 (σ.next + 1) = some (q1E t)) (fun a b hm ho he h => ?_) _ (fun σ2 c3 h => ?_) (fun σ2 c3 h2 => ?_) _ ⟨?_, ?_, ?_, ?_, ?_⟩ ?_ ?_ ?_ ?_
     ·rw [hm, he 1 (by decide), he 3 (by decide), he 4 (by decide)]
      exact h
     ·obtain ⟨f1, fm, f3, f4, fp⟩ := h
      by_cases h8 : t.kind = 8
      ·obtain ⟨hk0, hk1⟩ := key_in h8 c3
       have h3 : t.key.toNat < s.types.length := by omega
       have gy : (s.types.map typC)[t.key.toNat]? = some (typC s.types[t.key.toNat]) := by rw [List.getElem?_map, List.getElem?_eq_getElem h3]; rfl
       have hy : q7Q s.types t.key = s.types[t.key.toNat].kind := by unfold q7Q; rw [List.getElem?_eq_getElem h3]
       generalize s.types[t.key.toNat] = y at *
       have hkk := keykind_ev y.kind
       simp only [typC] at gy
       simp only [evA] at hkk
       by_cases c4 : 1 <= y.kind /\ y.kind <= 4
       ·rw [decide_eq_true c4] at hkk
        simp [-Option.bind_some, -Int.toNat_lt, -List.map_map, List.range_succ, f1, fm, f3, f4, fp, h8, hk0, gy, hkk, hw]
        refine ih hlt _ ⟨?_, ?_, ?_, ?_⟩
        ·simp [f1]
        ·simp [fm]
        ·simp
        ·rw [<- hv, if_pos]
         unfold q1F
         rw [if_neg (by simp [c1]), if_neg c2, if_neg (by simp [c3]), if_neg fun h => h.2 (by rw [hy]; exact c4)]
       ·rw [decide_eq_false c4] at hkk
        simp [-Option.bind_some, -Int.toNat_lt, -List.map_map, List.range_succ, f1, fm, f3, f4, fp, h8, hk0, gy, hkk]
        exact err _ 1 (by unfold q1F; rw [if_neg (by simp [c1]), if_neg c2, if_neg (by simp [c3]), if_pos ⟨h8, by rw [hy]; exact c4⟩]) (by decide) (by simp)
      ·simp [-Option.bind_some, -Int.toNat_lt, -List.map_map, List.range_succ, f1, fm, f3, f4, fp, h8, hw]
       refine ih hlt _ ⟨?_, ?_, ?_, ?_⟩
       ·simp [f1]
       ·simp [fm]
       ·simp
       ·rw [<- hv, if_pos]
        unfold q1F
        rw [if_neg (by simp [c1]), if_neg c2, if_neg (by simp [c3]), if_neg fun h => h8 h.1]
     ·simp [-Option.bind_some, -Int.toNat_lt, -List.map_map, List.range_succ]
      exact err _ 4 (by unfold q1F; rw [if_neg (by simp [c1]), if_neg c2, if_pos c3]) (by decide) h2
     all_goals simp [f1, fm, f3, f4, fp]
    ·simp [-Option.bind_some, -Int.toNat_lt, -List.map_map, List.range_succ]
     exact err _ 1 (by unfold q1F; rw [if_neg (by simp [c1]), if_pos c2]) (by decide) h2
    all_goals simp [e1, m1, e3]
  ·have hlt' : ¬ (i : Int) < s.types.length := by omega
   simp [q2R, -Option.bind_some, -Int.toNat_lt, -List.map_map, List.range_succ, e1, m1, e3, hlt']
   refine hk _ _ (.inl ⟨rfl, ?_⟩)
   rw [<- hv, show s.types.length - i = 0 from by omega, q1q]
 ·refine ⟨?_, ?_, ?_, ?_⟩ <;> simp
 ·rcases h with ⟨rfl, h1⟩ | ⟨rfl, h1⟩
  ·simp [-Option.bind_some, -Int.toNat_lt, -List.map_map, List.range_succ, h1]
  ·simp [-Option.bind_some, -Int.toNat_lt, -List.map_map, List.range_succ, h1]
end Go.Proofs.YtdjomefkhdimaaaGreat
namespace Go.Proofs.YtdjomefkhdimaaaGreat
open Go
set_option maxRecDepth 10000
set_option maxHeartbeats 8000000
set_option linter.unusedSimpArgs false
noncomputable def plainV (S : List Typ) (t : Int) (v : Vl) : Bool := fitN S (SizeOf.sizeOf v + 1) t v
theorem plain_v (sn : Bool) (S : List Typ) (hS : goodS S) (t : Int) (v : Vl) (hok : v.ok) (h64 : v.i64) : evA 65 [schA sn S, .int .i64 t, .agg (valC v)] (.bool (plainV S t v)) := by
 have h := fits_ev sn S hS (SizeOf.sizeOf v + 1) t v (by omega) hok h64
 simp only [evA, q03] at h ⊢
 refine q00 (c := q45) rfl rfl ?_
 unfold plainV
 simp [q45, -Option.bind_some, -Int.toNat_lt, -List.map_map, List.range_succ, h]
theorem rplain_v (sn : Bool) (S : List Typ) (hS : goodS S) (t : Int) (v : Vl) (hok : v.ok) (h64 : v.i64) : evA 62 [schA sn S, .int .i64 t, .agg (valC v)] (.bool (plainV S t v)) := by
 have h := fit_ev sn S hS (SizeOf.sizeOf v + 1) t v (by omega) hok h64
 simp only [evA, q03] at h ⊢
 refine q00 (c := q41) rfl rfl ?_
 unfold plainV
 simp [q41, -Option.bind_some, -Int.toNat_lt, -List.map_map, List.range_succ, h]
theorem valid_types {l : List Typ} : ∀ n i, i + n = l.length -> q1q l n i = 0 -> ∀ j, i <= j -> (h : j < l.length) -> q1F l j l[j] = 0
 | 0, i, hi, _, j, hj, h => by omega
 | n + 1, i, hi, h0, j, hj, h => by
  have hlt : i < l.length := by omega
  rw [q1q, List.getElem?_eq_getElem hlt] at h0
  simp only at h0
  by_cases he : q1F l i l[i] = 0
  ·rw [if_pos he] at h0
   rcases Nat.lt_or_eq_of_le hj with h1 | h1
   ·exact valid_types n (i + 1) (by omega) h0 j h1 h
   ·subst h1; exact he
  ·rw [if_neg he] at h0; exact absurd h0 he
theorem q6e {l : List Typ} {i : Nat} {t : Typ} (h : q1F l i t = 0) : q25 t = true /\ t.usesL.any (q0I l.length) = false := by
 unfold q1F at h
 by_cases h1 : q25 t = false
 ·rw [if_pos h1] at h; cases h
 ·rw [if_neg h1] at h
  refine ⟨by simpa using h1, ?_⟩
  by_cases h2 : t.named = true /\ t.name ∈ (l.take i).map Typ.name
  ·rw [if_pos h2] at h; cases h
  ·rw [if_neg h2] at h
   by_cases h3 : t.usesL.any (q0I l.length) = true
   ·rw [if_pos h3] at h; cases h
   ·simpa using h3
theorem q55 {l : List Typ} (h : valid l = 0) (j : Nat) (hj : j < l.length) : q1F l j l[j] = 0 := by
 unfold valid at h
 by_cases h32 : 32 < l.length
 ·rw [if_pos h32] at h; cases h
 ·rw [if_neg h32] at h
  exact valid_types l.length 0 (by omega) h j (by omega) hj
theorem valid_good {s : Sch} (hs : s.fine) (h : valid s.types = 0) : goodS s.types := fun x hx => by
 obtain ⟨j, hj, rfl⟩ := List.getElem_of_mem hx
 exact ⟨(q6e (q55 h j hj)).1, hs.2 _ hx⟩
noncomputable def badM (S : List Typ) (m : Mem) : Bool := m.has && !plainV S m.ty m.dflt
noncomputable def q6h (S : List Typ) (t : Typ) : Option Int := (t.mems.find? (badM S)).map Mem.id
noncomputable def q2n (S : List Typ) : Nat -> Nat -> Option (Nat × Int)
 | 0, _ => none
 | n + 1, i => match S[i]? with
  | some t => (match q6h S t with
   | some d => some (i, d)
   | none => q2n S n (i + 1))
  | none => none
def dfltA : Option (Nat × Int) -> AV
 | some (i, d) => .tup [.int .i64 i, .int .i64 d, .int .i64 1]
 | none => .tup [.int .i64 0, .int .i64 0, .int .i64 0]
noncomputable def dfltsA (S : List Typ) : AV := if valid S = 0 then dfltA (q2n S S.length 0) else .tup [.int .i64 0, .int .i64 0, .int .i64 (valid S)]
def Typ.d64 (t : Typ) : Prop := ∀ m ∈ t.mems, m.dflt.i64
def Sch.d64 (s : Sch) : Prop := ∀ t ∈ s.types, t.d64
theorem dflts_step {S : List Typ} {i : Nat} (h : i < S.length) : q2n S (S.length - i) i = match q6h S S[i] with
  | some d => some (i, d)
  | none => q2n S (S.length - (i + 1)) (i + 1) := by
 rw [show S.length - i = (S.length - (i + 1)) + 1 from by omega, q2n, List.getElem?_eq_getElem h]
theorem dlp (sn : Bool) (S : List Typ) (hS : goodS S) (t : Typ) (ht : t.fine) (h64 : t.d64) (b : Bool) (i : Nat) (r : RV) (P : MSt -> Prop) (hP : ∀ s s' : MSt, (∀ t n, t ≠ 9 -> s'.mem t n = s.mem t n) -> (∀ t, t ∉ [2, 3, 4, 9, 27, 28, 29, 30, 31, 32, 33, 34, 35, 36, 37, 38, 39, 40, 41, 42, 43, 44, 26] -> s'.env t = s.env t) -> P s -> P s') (k : Ex -> MSt -> Option RV)
  (hk : ∀ s', q6h S t = none -> P s' -> k (.exit 2) s' = some r) (hr : ∀ (s' : MSt) d, q6h S t = some d -> (s'.env 2).v = .int .i64 i -> (s'.env 3).v = .int .i64 d -> (s'.env 4).v = .int .i64 1 -> k .ret s' = some r)
  (s : MSt) (hs : P s) (h1 : (s.env 1).v = .ptr 1 1 0) (m1 : s.mem 1 1 = some [⟨.sl sn (S.map typC), .no⟩]) (h6 : (s.env 6).v = .int .i64 i) (h24 : (s.env 24).v = .sl b (t.mems.map memC)) (h25 : (s.env 25).v = .int .i64 t.mems.length) (h26 : (s.env 26).v = .int .i64 0) : evL allT q02 q0T s k = some r := by
 refine q0h t.mems.length (fun j s => P s /\ (s.env 1).v = .ptr 1 1 0 /\ s.mem 1 1 = some [⟨.sl sn (S.map typC), .no⟩] /\ (s.env 6).v = .int .i64 i /\ (s.env 24).v = .sl b (t.mems.map memC) /\ (s.env 25).v = .int .i64 t.mems.length /\ (s.env 26).v = .int .i64 j /\ (t.mems.drop j).find? (badM S) = t.mems.find? (badM S))
  (fun e s => (e = .exit 2 /\ q6h S t = none /\ P s) \/ (e = .ret /\ ∃ d, q6h S t = some d /\ (s.env 2).v = .int .i64 i /\ (s.env 3).v = .int .i64 d /\ (s.env 4).v = .int .i64 1)) (fun j hj s k h ih hk => ?_) _ _ ?_ (fun e s h => ?_)
 ·obtain ⟨hp, e1, m1, e6, e24, e25, e26, hs⟩ := h
  refine q05 ?_
  by_cases hlt : j < t.mems.length
  ·have hlt' : (j : Int) < t.mems.length := by omega
   have g1 : (t.mems.map memC)[j]? = some (memC t.mems[j]) := by simp [hlt]
   have hw := q1d (i := j) (by have := ht.2.2; omega)
   have hpl := plain_v sn S hS t.mems[j].ty t.mems[j].dflt (ht.1.2.2 _ (List.getElem_mem _)).1 (h64 _ (List.getElem_mem _))
   rw [List.drop_eq_getElem_cons hlt, List.find?_cons] at hs
   generalize t.mems[j] = m at *
   simp only [memC] at g1
   simp only [evA, q03] at hpl
   have bad : badM S m = true -> q6h S t = some m.id := fun h => by unfold q6h; rw [<- hs, h]; rfl
   have good : badM S m = false -> (t.mems.drop (j + 1)).find? (badM S) = t.mems.find? (badM S) := fun h => by rw [<- hs, h]
   have nxt : ∀ s' : MSt, (∀ t n, t ≠ 9 -> s'.mem t n = s.mem t n) -> (∀ t, t ∉ [2, 3, 4, 9, 27, 28, 29, 30, 31, 32, 33, 34, 35, 36, 37, 38, 39, 40, 41, 42, 43, 44, 26] -> s'.env t = s.env t) -> (s'.env 26).v = .int .i64 ((j + 1 : Nat) : Int) -> badM S m = false -> evL allT q02 q0T s' k = some r := fun s' hm he h26 hb => by
    refine ih hlt _ ⟨hP s s' hm he hp, ?_, ?_, ?_, ?_, ?_, h26, good hb⟩
    ·rw [he 1 (by decide)]; exact e1
    ·rw [hm 1 1 (by decide)]; exact m1
    ·rw [he 6 (by decide)]; exact e6
    ·rw [he 24 (by decide)]; exact e24
    ·rw [he 25 (by decide)]; exact e25
   cases hh : m.has with
   | false =>
    simp [q0T, -Option.bind_some, -Int.toNat_lt, -List.map_map, List.range_succ, e1, m1, e6, e24, e25, e26, hlt', g1, hh, hw]
    refine nxt _ ?_ ?_ ?_ (by simp [badM, hh])
    ·intro t n ht; simp [q0o, ht]
    ·intro t ht
     simp only [List.mem_cons, List.not_mem_nil, or_false, not_or] at ht
     simp [q2F, ht]
    ·simp
   | true =>
    cases hpv : plainV S m.ty m.dflt with
    | true =>
     rw [hpv] at hpl
     simp [q0T, -Option.bind_some, -Int.toNat_lt, -List.map_map, List.range_succ, e1, m1, e6, e24, e25, e26, hlt', g1, hh, hpl, hw]
     refine nxt _ ?_ ?_ ?_ (by simp [badM, hh, hpv])
     ·intro t n ht; simp [q0o, ht]
     ·intro t ht
      simp only [List.mem_cons, List.not_mem_nil, or_false, not_or] at ht
      simp [q2F, ht]
     ·simp
    | false =>
     rw [hpv] at hpl
     simp [q0T, -Option.bind_some, -Int.toNat_lt, -List.map_map, List.range_succ, e1, m1, e6, e24, e25, e26, hlt', g1, hh, hpl]
     exact hk _ _ (.inr ⟨rfl, m.id, bad (by simp [badM, hh, hpv]), by simp, by simp, by simp⟩)
  ·have hlt' : ¬ (j : Int) < t.mems.length := by omega
   simp [q0T, -Option.bind_some, -Int.toNat_lt, -List.map_map, List.range_succ, e25, e26, hlt']
   rw [List.drop_eq_nil_of_le (by omega)] at hs
   refine hk _ _ (.inl ⟨rfl, by unfold q6h; rw [<- hs]; rfl, hP s _ ?_ ?_ hp⟩)
   ·intro t n _; rfl
   ·intro t ht
    simp only [List.mem_cons, List.not_mem_nil, or_false, not_or] at ht
    simp [q2F, ht]
 ·simp [hs, h1, m1, h6, h24, h25, h26]
 ·rcases h with ⟨rfl, h1, h2⟩ | ⟨rfl, d, h1, h2, h3, h4⟩
  ·exact hk s h1 h2
  ·exact hr s d h1 h2 h3 h4
theorem dflts_ev (s : Sch) (hs : s.fine) (h64 : s.d64) : evA 45 [.agg (schC s)] (dfltsA s.types) := by
 have hv := valid_ev s hs
 simp only [evA, schC] at hv
 refine q00 (c := q2d) rfl rfl ?_
 unfold dfltsA
 by_cases h0 : valid s.types = 0
 case neg =>
  rw [if_neg h0]
  simp [q2d, -Option.bind_some, -Int.toNat_lt, -List.map_map, List.range_succ, schC, hv, h0]
 have hS := valid_good hs h0
 rw [if_pos h0]
 rw [h0] at hv
 simp [q2d, -Option.bind_some, -Int.toNat_lt, -List.map_map, List.range_succ, schC, hv]
 refine q0h s.types.length (fun i σ => (σ.env 1).v = .ptr 1 1 0 /\ σ.mem 1 1 = some [⟨.sl s.nl (s.types.map typC), .no⟩] /\ (σ.env 16).v = .sl s.nl (s.types.map typC) /\ (σ.env 17).v = .int .i64 s.types.length /\ (σ.env 18).v = .int .i64 i /\ q2n s.types (s.types.length - i) i = q2n s.types s.types.length 0)
  (fun e σ => (e = .exit 0 /\ q2n s.types s.types.length 0 = none) \/ (e = .ret /\ ∃ j d, q2n s.types s.types.length 0 = some (j, d) /\ (σ.env 2).v = .int .i64 j /\ (σ.env 3).v = .int .i64 d /\ (σ.env 4).v = .int .i64 1)) (fun i hi σ k h ih hk => ?_) _ _ ?_ (fun e σ h => ?_)
 ·obtain ⟨e1, m1, e16, e17, e18, hd⟩ := h
  refine q05 ?_
  by_cases hlt : i < s.types.length
  ·have hlt' : (i : Int) < s.types.length := by omega
   have g1 : (s.types.map typC)[i]? = some (typC s.types[i]) := by simp [hlt]
   have hw := q1d (i := i) (by have := hs.1; omega)
   have hfine := hs.2 _ (List.getElem_mem hlt)
   have hd64 := h64 _ (List.getElem_mem hlt)
   rw [dflts_step hlt] at hd
   generalize s.types[i] = t at *
   simp only [typC] at g1
   simp [q2Y, -Option.bind_some, -Int.toNat_lt, -List.map_map, List.range_succ, e1, m1, e16, e17, e18, hlt', g1]
   refine dlp s.nl s.types hS t hfine hd64 t.mn i _ (fun σ2 => (σ2.env 1).v = .ptr 1 1 0 /\ σ2.mem 1 1 = some [⟨.sl s.nl (s.types.map typC), .no⟩] /\ (σ2.env 16).v = .sl s.nl (s.types.map typC) /\ (σ2.env 17).v = .int .i64 s.types.length /\ (σ2.env 18).v = .int .i64 i) (fun a b hm he h => ?_) _ (fun σ2 hn h => ?_) (fun σ2 d hn q2 q3 q4 => ?_) _ ⟨?_, ?_, ?_, ?_, ?_⟩ ?_ ?_ ?_ ?_ ?_ ?_
   ·rw [hm 1 1 (by decide), he 1 (by decide), he 16 (by decide), he 17 (by decide), he 18 (by decide)]
    exact h
   ·obtain ⟨f1, fm, f16, f17, f18⟩ := h
    simp [-Option.bind_some, -Int.toNat_lt, -List.map_map, List.range_succ, f18, hw]
    refine ih hlt _ ⟨?_, ?_, ?_, ?_, ?_, by rw [<- hd, hn]⟩ <;> simp [f1, fm, f16, f17]
   ·simp [-Option.bind_some, -Int.toNat_lt, -List.map_map, List.range_succ]
    exact hk _ _ (.inr ⟨rfl, i, d, by rw [<- hd, hn], q2, q3, q4⟩)
   all_goals simp [e1, m1, e16, e17, e18]
  ·have hlt' : ¬ (i : Int) < s.types.length := by omega
   simp [q2Y, -Option.bind_some, -Int.toNat_lt, -List.map_map, List.range_succ, e17, e18, hlt']
   exact hk _ _ (.inl ⟨rfl, by rw [<- hd, show s.types.length - i = 0 from by omega, q2n]⟩)
 ·simp
 ·rcases h with ⟨rfl, h1⟩ | ⟨rfl, j, d, h1, h2, h3, h4⟩
  ·rw [h1]; simp [-Option.bind_some, -Int.toNat_lt, -List.map_map, List.range_succ, dfltA]
  ·rw [h1]; simp [-Option.bind_some, -Int.toNat_lt, -List.map_map, List.range_succ, h2, h3, h4, dfltA]
end Go.Proofs.YtdjomefkhdimaaaGreat
namespace Go.Proofs.YtdjomefkhdimaaaGreat
open Go
set_option maxRecDepth 10000
set_option maxHeartbeats 8000000
set_option linter.unusedSimpArgs false
theorem rdlp (sn : Bool) (S : List Typ) (hS : goodS S) (t : Typ) (ht : t.fine) (h64 : t.d64) (b : Bool) (i : Nat) (r : RV) (P : MSt -> Prop) (hP : ∀ s s' : MSt, s'.mem = s.mem -> (∀ t, t ∉ [2, 3, 4, 8, 27, 28, 29, 30, 31, 32, 33, 34, 35, 36, 37, 38, 39, 40, 41, 42, 43, 44, 45, 46, 47, 48, 49, 50, 51, 52] -> s'.env t = s.env t) -> P s -> P s') (k : Ex -> MSt -> Option RV)
  (hk : ∀ s', q6h S t = none -> P s' -> k (.exit 2) s' = some r) (hr : ∀ (s' : MSt) d, q6h S t = some d -> (s'.env 2).v = .int .i64 i -> (s'.env 3).v = .int .i64 d -> (s'.env 4).v = .int .i64 1 -> k .ret s' = some r)
  (s : MSt) (hs : P s) (h1 : (s.env 1).v = .ptr 1 1 0) (m1 : s.mem 1 1 = some [⟨.sl sn (S.map typC), .no⟩]) (h6 : (s.env 6).v = .int .i64 i) (h7 : (s.env 7).v = .sl b (t.mems.map memC)) (h8 : (s.env 8).v = .int .i64 0) : evL allT q02 q0S s k = some r := by
 refine q0h t.mems.length (fun j s => P s /\ (s.env 1).v = .ptr 1 1 0 /\ s.mem 1 1 = some [⟨.sl sn (S.map typC), .no⟩] /\ (s.env 6).v = .int .i64 i /\ (s.env 7).v = .sl b (t.mems.map memC) /\ (s.env 8).v = .int .i64 j /\ (t.mems.drop j).find? (badM S) = t.mems.find? (badM S))
  (fun e s => (e = .exit 2 /\ q6h S t = none /\ P s) \/ (e = .ret /\ ∃ d, q6h S t = some d /\ (s.env 2).v = .int .i64 i /\ (s.env 3).v = .int .i64 d /\ (s.env 4).v = .int .i64 1)) (fun j hj s k h ih hk => ?_) _ _ ?_ (fun e s h => ?_)
 ·obtain ⟨hp, e1, m1, e6, e7, e8, hs⟩ := h
  refine q05 ?_
  by_cases hlt : j < t.mems.length
  ·have hlt' : (j : Int) < t.mems.length := by omega
   have g1 : (t.mems.map memC)[j]? = some (memC t.mems[j]) := by simp [hlt]
   have hw := q1d (i := j) (by have := ht.2.2; omega)
   have hpl := rplain_v sn S hS t.mems[j].ty t.mems[j].dflt (ht.1.2.2 _ (List.getElem_mem _)).1 (h64 _ (List.getElem_mem _))
   rw [List.drop_eq_getElem_cons hlt, List.find?_cons] at hs
   generalize t.mems[j] = m at *
   simp only [memC] at g1
   simp only [evA, q03] at hpl
   have bad : badM S m = true -> q6h S t = some m.id := fun h => by unfold q6h; rw [<- hs, h]; rfl
   have good : badM S m = false -> (t.mems.drop (j + 1)).find? (badM S) = t.mems.find? (badM S) := fun h => by rw [<- hs, h]
   have nxt : ∀ s' : MSt, s'.mem = s.mem -> (∀ t, t ∉ [2, 3, 4, 8, 27, 28, 29, 30, 31, 32, 33, 34, 35, 36, 37, 38, 39, 40, 41, 42, 43, 44, 45, 46, 47, 48, 49, 50, 51, 52] -> s'.env t = s.env t) -> (s'.env 8).v = .int .i64 ((j + 1 : Nat) : Int) -> badM S m = false -> evL allT q02 q0S s' k = some r := fun s' hm he h26 hb => by
    refine ih hlt _ ⟨hP s s' hm he hp, ?_, ?_, ?_, ?_, h26, good hb⟩
    ·rw [he 1 (by decide)]; exact e1
    ·rw [hm]; exact m1
    ·rw [he 6 (by decide)]; exact e6
    ·rw [he 7 (by decide)]; exact e7
   cases hh : m.has with
   | false =>
    simp [q0S, -Option.bind_some, -Int.toNat_lt, -List.map_map, List.range_succ, e1, m1, e6, e7, e8, hlt', g1, hh, hw]
    refine nxt _ rfl ?_ ?_ (by simp [badM, hh])
    ·intro t ht
     simp only [List.mem_cons, List.not_mem_nil, or_false, not_or] at ht
     simp [q2F, ht]
    ·simp
   | true =>
    cases hpv : plainV S m.ty m.dflt with
    | true =>
     rw [hpv] at hpl
     simp [q0S, -Option.bind_some, -Int.toNat_lt, -List.map_map, List.range_succ, e1, m1, e6, e7, e8, hlt', g1, hh, hpl, hw]
     refine nxt _ rfl ?_ ?_ (by simp [badM, hh, hpv])
     ·intro t ht
      simp only [List.mem_cons, List.not_mem_nil, or_false, not_or] at ht
      simp [q2F, ht]
     ·simp
    | false =>
     rw [hpv] at hpl
     simp [q0S, -Option.bind_some, -Int.toNat_lt, -List.map_map, List.range_succ, e1, m1, e6, e7, e8, hlt', g1, hh, hpl]
     exact hk _ _ (.inr ⟨rfl, m.id, bad (by simp [badM, hh, hpv]), by simp, by simp, by simp⟩)
  ·have hlt' : ¬ (j : Int) < t.mems.length := by omega
   simp [q0S, -Option.bind_some, -Int.toNat_lt, -List.map_map, List.range_succ, e7, e8, hlt']
   rw [List.drop_eq_nil_of_le (by omega)] at hs
   refine hk _ _ (.inl ⟨rfl, by unfold q6h; rw [<- hs]; rfl, hP s _ rfl ?_ hp⟩)
   intro t ht
   simp only [List.mem_cons, List.not_mem_nil, or_false, not_or] at ht
   simp [q2F, ht]
 ·simp [hs, h1, m1, h6, h7, h8]
 ·rcases h with ⟨rfl, h1, h2⟩ | ⟨rfl, d, h1, h2, h3, h4⟩
  ·exact hk s h1 h2
  ·exact hr s d h1 h2 h3 h4
theorem rdflts_ev (s : Sch) (hs : s.fine) (h64 : s.d64) : evA 43 [.agg (schC s)] (dfltsA s.types) := by
 have hv := rvalid_ev s hs
 simp only [evA, schC] at hv
 refine q00 (c := q29) rfl rfl ?_
 unfold dfltsA
 by_cases h0 : valid s.types = 0
 case neg =>
  rw [if_neg h0]
  simp [q29, -Option.bind_some, -Int.toNat_lt, -List.map_map, List.range_succ, schC, hv, h0]
 have hS := valid_good hs h0
 rw [if_pos h0]
 rw [h0] at hv
 simp [q29, -Option.bind_some, -Int.toNat_lt, -List.map_map, List.range_succ, schC, hv]
 refine q0h s.types.length (fun i σ => (σ.env 1).v = .ptr 1 1 0 /\ σ.mem 1 1 = some [⟨.sl s.nl (s.types.map typC), .no⟩] /\ (σ.env 6).v = .int .i64 i /\ q2n s.types (s.types.length - i) i = q2n s.types s.types.length 0)
  (fun e σ => (e = .exit 0 /\ q2n s.types s.types.length 0 = none) \/ (e = .ret /\ ∃ j d, q2n s.types s.types.length 0 = some (j, d) /\ (σ.env 2).v = .int .i64 j /\ (σ.env 3).v = .int .i64 d /\ (σ.env 4).v = .int .i64 1)) (fun i hi σ k h ih hk => ?_) _ _ ?_ (fun e σ h => ?_)
 ·obtain ⟨e1, m1, e6, hd⟩ := h
  refine q05 ?_
  by_cases hlt : i < s.types.length
  ·have hlt' : (i : Int) < s.types.length := by omega
   have g1 : (s.types.map typC)[i]? = some (typC s.types[i]) := by simp [hlt]
   have hw := q1d (i := i) (by have := hs.1; omega)
   have hfine := hs.2 _ (List.getElem_mem hlt)
   have hd64 := h64 _ (List.getElem_mem hlt)
   rw [dflts_step hlt] at hd
   generalize s.types[i] = t at *
   simp only [typC] at g1
   simp [q2Z, -Option.bind_some, -Int.toNat_lt, -List.map_map, List.range_succ, e1, m1, e6, hlt', g1]
   refine rdlp s.nl s.types hS t hfine hd64 t.mn i _ (fun σ2 => (σ2.env 1).v = .ptr 1 1 0 /\ σ2.mem 1 1 = some [⟨.sl s.nl (s.types.map typC), .no⟩] /\ (σ2.env 6).v = .int .i64 i) (fun a b hm he h => ?_) _ (fun σ2 hn h => ?_) (fun σ2 d hn q2 q3 q4 => ?_) _ ⟨?_, ?_, ?_⟩ ?_ ?_ ?_ ?_ ?_
   ·rw [hm, he 1 (by decide), he 6 (by decide)]
    exact h
   ·obtain ⟨f1, fm, f6⟩ := h
    simp [-Option.bind_some, -Int.toNat_lt, -List.map_map, List.range_succ, f6, hw]
    refine ih hlt _ ⟨?_, ?_, ?_, by rw [<- hd, hn]⟩ <;> simp [f1, fm]
   ·simp [-Option.bind_some, -Int.toNat_lt, -List.map_map, List.range_succ]
    exact hk _ _ (.inr ⟨rfl, i, d, by rw [<- hd, hn], q2, q3, q4⟩)
   all_goals simp [e1, m1, e6]
  ·have hlt' : ¬ (i : Int) < s.types.length := by omega
   simp [q2Z, -Option.bind_some, -Int.toNat_lt, -List.map_map, List.range_succ, e1, m1, e6, hlt']
   exact hk _ _ (.inl ⟨rfl, by rw [<- hd, show s.types.length - i = 0 from by omega, q2n]⟩)
 ·simp
 ·rcases h with ⟨rfl, h1⟩ | ⟨rfl, j, d, h1, h2, h3, h4⟩
  ·rw [h1]; simp [-Option.bind_some, -Int.toNat_lt, -List.map_map, List.range_succ, dfltA]
  ·rw [h1]; simp [-Option.bind_some, -Int.toNat_lt, -List.map_map, List.range_succ, h2, h3, h4, dfltA]
noncomputable def q2L (S : List Typ) : Int := if valid S = 0 then (match q2n S S.length 0 with
 | some _ => 1
 | none => 0) else valid S
theorem dfltsA_ne {S : List Typ} (h : valid S = 0) : ∃ i d, dfltsA S = .tup [.int .i64 i, .int .i64 d, .int .i64 (q2L S)] := by
 unfold dfltsA q2L
 rw [if_pos h, if_pos h]
 cases q2n S S.length 0 with
 | none => exact ⟨_, _, rfl⟩
 | some p => exact ⟨_, _, rfl⟩
theorem right_ev (s : Sch) (hs : s.fine) (h64 : s.d64) : evA 30 [.agg (schC s)] (.int .i64 (q2L s.types)) := by
 have hv := valid_ev s hs
 have hd := dflts_ev s hs h64
 refine q00 (c := q2q) rfl rfl ?_
 simp only [evA, schC] at hv hd
 by_cases h0 : valid s.types = 0
 ·obtain ⟨i, d, hA⟩ := dfltsA_ne h0
  rw [hA] at hd
  rw [h0] at hv
  simp [q2q, -Option.bind_some, -Int.toNat_lt, -List.map_map, List.range_succ, schC, hv, hd]
 ·unfold q2L
  rw [if_neg h0]
  simp [q2q, -Option.bind_some, -Int.toNat_lt, -List.map_map, List.range_succ, schC, hv, h0]
theorem rerror_ev (s : Sch) (hs : s.fine) (h64 : s.d64) : evA 29 [.agg (schC s)] (.int .i64 (q2L s.types)) := by
 have hv := rvalid_ev s hs
 have hd := rdflts_ev s hs h64
 refine q00 (c := q3f) rfl rfl ?_
 simp only [evA, schC] at hv hd
 by_cases h0 : valid s.types = 0
 ·obtain ⟨i, d, hA⟩ := dfltsA_ne h0
  rw [hA] at hd
  rw [h0] at hv
  simp [q3f, -Option.bind_some, -Int.toNat_lt, -List.map_map, List.range_succ, schC, hv, hd]
 ·unfold q2L
  rw [if_neg h0]
  simp [q3f, -Option.bind_some, -Int.toNat_lt, -List.map_map, List.range_succ, schC, hv, h0]
end Go.Proofs.YtdjomefkhdimaaaGreat
namespace Go.Proofs.YtdjomefkhdimaaaGreat
open Go
abbrev Vec := Nat -> Int
def inR (N : Nat) (v : Vec) : Prop := ∀ j, j < N -> 0 <= v j /\ v j <= 2
structure Grows (N : Nat) (F : Nat -> Vec -> Int) : Prop where
 mono : ∀ u v, inR N u -> inR N v -> (∀ j, j < N -> u j <= v j) -> ∀ i, i < N -> F i u <= F i v
 rng : ∀ u, inR N u -> ∀ i, i < N -> 0 <= F i u /\ F i u <= 2
def upd (F : Nat -> Vec -> Int) (v : Vec) (i : Nat) : Vec := fun j => if j = i then F i v else v j
structure Low (N : Nat) (F : Nat -> Vec -> Int) (v : Vec) : Prop where
 rng : inR N v
 post : ∀ j, j < N -> v j <= F j v
 least : ∀ m, inR N m -> (∀ j, j < N -> F j m <= m j) -> ∀ j, j < N -> v j <= m j
def sumV : Nat -> Vec -> Int
 | 0, _ => 0
 | n + 1, v => sumV n v + v n
theorem sumV_le (v : Vec) : ∀ N, inR N v -> sumV N v <= 2 * N
 | 0, _ => by simp [sumV]
 | n + 1, h => by
  have := sumV_le v n fun j hj => h j (by omega)
  have := h n (by omega)
  simp only [sumV]
  omega
theorem sumV_0 (v : Vec) : ∀ N, inR N v -> 0 <= sumV N v
 | 0, _ => by simp [sumV]
 | n + 1, h => by
  have := sumV_0 v n fun j hj => h j (by omega)
  have := h n (by omega)
  simp only [sumV]
  omega
theorem sumV_same (v w : Vec) : ∀ N, (∀ j, j < N -> v j = w j) -> sumV N v = sumV N w
 | 0, _ => rfl
 | n + 1, h => by simp only [sumV, sumV_same v w n fun j hj => h j (by omega), h n (by omega)]
theorem q71 (F : Nat -> Vec -> Int) (v : Vec) (i : Nat) : ∀ N, i < N -> sumV N (upd F v i) = sumV N v + (F i v - v i)
 | 0, h => by omega
 | n + 1, h => by
  simp only [sumV]
  by_cases e : i = n
  ·subst e
   rw [sumV_same (upd F v i) v i fun j hj => by simp [upd, show ¬ j = i from by omega]]
   simp only [upd, if_true]
   omega
  ·rw [q71 F v i n (by omega)]
   have : upd F v i n = v n := by simp [upd, show ¬ n = i from fun e' => e e'.symm]
   omega
section
variable {N : Nat} {F : Nat -> Vec -> Int}
theorem Low.zero (G : Grows N F) : Low N F (fun _ => 0) := by
 refine ⟨fun j hj => by omega, fun j hj => (G.rng _ (fun j hj => by omega) j hj).1, fun m hm _ j hj => (hm j hj).1⟩
theorem upd_ge {v : Vec} (h : Low N F v) {i : Nat} (hi : i < N) (j : Nat) : v j <= upd F v i j := by
 unfold upd
 split
 ·rename_i e; subst e; exact h.post _ hi
 ·exact Int.le_refl _
theorem upd_rng (G : Grows N F) {v : Vec} (h : Low N F v) {i : Nat} (hi : i < N) : inR N (upd F v i) := fun j hj => by
 unfold upd
 split
 ·exact G.rng v h.rng i hi
 ·exact h.rng j hj
theorem Low.upd (G : Grows N F) {v : Vec} (h : Low N F v) {i : Nat} (hi : i < N) : Low N F (upd F v i) := by
 have hr := upd_rng G h hi
 refine ⟨hr, fun j hj => ?_, fun m hm hp j hj => ?_⟩
 ·have hm := G.mono v (Go.Proofs.YtdjomefkhdimaaaGreat.upd F v i) h.rng hr (fun j _ => upd_ge h hi j) j hj
  unfold Go.Proofs.YtdjomefkhdimaaaGreat.upd at hm ⊢
  by_cases e : j = i
  ·subst e; simp only [if_true]; exact hm
  ·simp only [if_neg e]; have := h.post j hj; omega
 ·unfold Go.Proofs.YtdjomefkhdimaaaGreat.upd
  split
  ·rename_i e; subst e
   have := G.mono v m h.rng hm (h.least m hm hp) j hj
   have := hp j hj
   omega
  ·exact h.least m hm hp j hj
theorem upd_same {v : Vec} {i : Nat} (h : F i v = v i) : upd F v i = v := by
 funext j
 unfold upd
 split
 ·rename_i e; subst e; exact h
 ·rfl
end
end Go.Proofs.YtdjomefkhdimaaaGreat
namespace Go.Proofs.YtdjomefkhdimaaaGreat
open Go
def vecC (N : Nat) (v : Vec) : List (List AV) := (List.range N).map fun i => [AV.int .i64 (v i)]
theorem q8D (N : Nat) (v : Vec) : (vecC N v).length = N := by simp [vecC]
theorem q8x (N : Nat) (v : Vec) : q0Y 1 (vecC N v) = true := q1O _ _ _ fun _ => rfl
theorem vecC_free (N : Nat) (v : Vec) : q22 (vecC N v) = true := q6G _ _ fun _ => rfl
theorem q23 {N : Nat} (v : Vec) {t : Int} (h : 0 <= t /\ t < N) : (vecC N v)[t.toNat]? = some [.int .i64 (v t.toNat)] := by
 have : t.toNat < N := by omega
 simp [vecC, this]
theorem vecC_set {N : Nat} (v w : Vec) {i : Nat} {x : Int} (hi : w i = x) (h : ∀ j, j ≠ i -> w j = v j) : (vecC N v).set i [.int .i64 x] = vecC N w := by
 apply List.ext_getElem?
 intro j
 by_cases e : j = i
 ·subst e
  by_cases hj : j < N
  ·simp [vecC, hj, hi]
  ·simp [vecC, hj]
 ·rw [List.getElem?_set_ne (fun e' => e e'.symm)]
  by_cases hj : j < N
  ·simp [vecC, hj, h j e]
  ·simp [vecC, hj]
def recF (v : Vec) : List Mem -> Int -> Int
 | [], c => c
 | m :: r, c => recF v r (min 2 (c * v m.ty.toNat))
def sumF (v : Vec) : List Mem -> Int -> Int
 | [], c => c
 | m :: r, c => sumF v r (c + v m.ty.toNat)
def capF (v : Vec) : List Mem -> Int -> Int
 | [], c => c
 | m :: r, c => capF v r (min 2 (c + v m.ty.toNat))
def cntP (x : Typ) (v : Vec) : Int :=
 if x.kind = 2 then (if x.low = x.high then 1 else 2)
 else if x.kind = 3 then (if x.max = 0 then 1 else 2)
 else if x.kind = 4 then x.syms.length
 else if x.kind = 5 then recF v x.mems 1
 else if x.kind = 6 then sumF v x.mems 0
 else if x.kind = 7 then (if x.max = 0 \/ v x.elem.toNat = 0 then 1 else 2)
 else if x.kind = 8 then (if x.max = 0 \/ v x.elem.toNat = 0 \/ v x.key.toNat = 0 then 1 else 2)
 else if x.kind = 9 then 1 + v x.elem.toNat
 else 2
def cntR (x : Typ) (v : Vec) : Int :=
 if x.kind = 2 then (if x.low = x.high then 1 else 2)
 else if x.kind = 3 then (if x.max = 0 then 1 else 2)
 else if x.kind = 4 then min 2 x.syms.length
 else if x.kind = 5 then recF v x.mems 1
 else if x.kind = 6 then capF v x.mems 0
 else if x.kind = 7 \/ x.kind = 8 then (if x.max = 0 \/ v x.elem.toNat = 0 then 1 else 2)
 else if x.kind = 9 then min 2 (1 + v x.elem.toNat)
 else 2
structure q1S (N : Nat) (x : Typ) : Prop where
 mems : ∀ m ∈ x.mems, 0 <= m.ty /\ m.ty < N
 few : x.mems.length <= 16
 elem : 7 <= x.kind -> 0 <= x.elem /\ x.elem < N
 key : x.kind = 8 -> 0 <= x.key /\ x.key < N
theorem recF_rng {N : Nat} {v : Vec} (hv : inR N v) : ∀ (l : List Mem) (c : Int), (∀ m ∈ l, 0 <= m.ty /\ m.ty < N) -> 0 <= c /\ c <= 2 -> 0 <= recF v l c /\ recF v l c <= 2
 | [], c, _, hc => hc
 | m :: r, c, hm, hc => by
  have h1 := hm m List.mem_cons_self
  have h2 := hv m.ty.toNat (by omega)
  refine recF_rng hv r _ (fun m' h => hm m' (List.mem_cons_of_mem _ h)) ?_
  have : 0 <= c * v m.ty.toNat := Int.mul_nonneg hc.1 h2.1
  omega
theorem capF_rng {N : Nat} {v : Vec} (hv : inR N v) : ∀ (l : List Mem) (c : Int), (∀ m ∈ l, 0 <= m.ty /\ m.ty < N) -> 0 <= c /\ c <= 2 -> 0 <= capF v l c /\ capF v l c <= 2
 | [], c, _, hc => hc
 | m :: r, c, hm, hc => by
  have h1 := hm m List.mem_cons_self
  have h2 := hv m.ty.toNat (by omega)
  refine capF_rng hv r _ (fun m' h => hm m' (List.mem_cons_of_mem _ h)) ?_
  omega
theorem cap_sum {N : Nat} {v : Vec} (hv : inR N v) : ∀ (l : List Mem) (c : Int), (∀ m ∈ l, 0 <= m.ty /\ m.ty < N) -> capF v l (min 2 c) = min 2 (sumF v l c)
 | [], c, _ => rfl
 | m :: r, c, hm => by
  have h1 := hm m List.mem_cons_self
  have h2 := hv m.ty.toNat (by omega)
  rw [capF, sumF, <- cap_sum hv r _ (fun m' h => hm m' (List.mem_cons_of_mem _ h))]
  congr 1
  omega
theorem mul_mono {a b c d : Int} (h1 : 0 <= a) (h2 : a <= b) (h3 : 0 <= c) (h4 : c <= d) : a * c <= b * d := Int.mul_le_mul h2 h4 h3 (by omega)
theorem recF_mono {N : Nat} {u v : Vec} (hu : inR N u) (hv : inR N v) (huv : ∀ j, j < N -> u j <= v j) : ∀ (l : List Mem) (c d : Int), (∀ m ∈ l, 0 <= m.ty /\ m.ty < N) -> 0 <= c -> c <= d -> d <= 2 -> recF u l c <= recF v l d
 | [], c, d, _, _, h, _ => h
 | m :: r, c, d, hm, h0, h, hd => by
  have h1 := hm m List.mem_cons_self
  have h2 := hu m.ty.toNat (by omega)
  have h4 := huv m.ty.toNat (by omega)
  have h5 := mul_mono h0 h h2.1 h4
  have h6 : 0 <= c * u m.ty.toNat := Int.mul_nonneg h0 h2.1
  exact recF_mono hu hv huv r _ _ (fun m' h => hm m' (List.mem_cons_of_mem _ h)) (by omega) (by omega) (by omega)
theorem capF_mono {N : Nat} {u v : Vec} (hu : inR N u) (hv : inR N v) (huv : ∀ j, j < N -> u j <= v j) : ∀ (l : List Mem) (c d : Int), (∀ m ∈ l, 0 <= m.ty /\ m.ty < N) -> c <= d -> capF u l c <= capF v l d
 | [], c, d, _, h => h
 | m :: r, c, d, hm, h => by
  have h1 := hm m List.mem_cons_self
  have h4 := huv m.ty.toNat (by omega)
  exact capF_mono hu hv huv r _ _ (fun m' h => hm m' (List.mem_cons_of_mem _ h)) (by omega)
theorem cntR_rng {N : Nat} {v : Vec} (hv : inR N v) {x : Typ} (hx : q1S N x) : 0 <= cntR x v /\ cntR x v <= 2 := by
 unfold cntR
 repeat' split
 all_goals first
  | omega
  | exact recF_rng hv _ _ hx.mems (by omega)
  | exact capF_rng hv _ _ hx.mems (by omega)
  | (have := hx.elem (by omega); have := hv x.elem.toNat (by omega); omega)
theorem q6O {N : Nat} {v : Vec} (hv : inR N v) {x : Typ} (hx : q1S N x) (hk : x.kind ≠ 8) : min 2 (cntP x v) = cntR x v := by
 unfold cntR cntP
 by_cases h5 : x.kind = 5
 ·have := recF_rng hv x.mems 1 hx.mems (by omega)
  simp [h5]
  omega
 ·by_cases h6 : x.kind = 6
  ·have := cap_sum hv x.mems 0 hx.mems
   simp [h6]
   exact this.symm
  ·by_cases h7 : x.kind = 7
   ·simp [h7]; split <;> rfl
   ·simp only [h5, h6, h7, hk, if_false, or_self]
    repeat' split
    all_goals rfl
theorem cntP_8 {v : Vec} {x : Typ} (hk : x.kind = 8) : min 2 (cntP x v) = if x.max = 0 \/ v x.elem.toNat = 0 \/ v x.key.toNat = 0 then 1 else 2 := by
 simp [cntP, hk]
 split <;> rfl
theorem cntR_8 {v : Vec} {x : Typ} (hk : x.kind = 8) : cntR x v = if x.max = 0 \/ v x.elem.toNat = 0 then 1 else 2 := by simp [cntR, hk]
theorem cntR_mono {N : Nat} {u v : Vec} (hu : inR N u) (hv : inR N v) (huv : ∀ j, j < N -> u j <= v j) {x : Typ} (hx : q1S N x) : cntR x u <= cntR x v := by
 have he : 7 <= x.kind -> 0 <= u x.elem.toNat /\ u x.elem.toNat <= v x.elem.toNat := fun h => by
  have := hx.elem h
  exact ⟨(hu _ (by omega)).1, huv _ (by omega)⟩
 unfold cntR
 by_cases h5 : x.kind = 5
 ·simp [h5]; exact recF_mono hu hv huv _ _ _ hx.mems (by omega) (by omega) (by omega)
 ·by_cases h6 : x.kind = 6
  ·simp [h6]; exact capF_mono hu hv huv _ _ _ hx.mems (by omega)
  ·by_cases h7 : x.kind = 7 \/ x.kind = 8
   ·have := he (by omega)
    have h2 : ¬ x.kind = 2 := by omega
    have h3 : ¬ x.kind = 3 := by omega
    have h4 : ¬ x.kind = 4 := by omega
    simp only [h2, h3, h4, h5, h6, h7, if_true, if_false]
    split <;> split <;> omega
   ·by_cases h9 : x.kind = 9
    ·have := he (by omega)
     simp [h9]; omega
    ·simp only [h5, h6, h7, h9, if_false]
     repeat' split
     all_goals omega
def FP (S : List Typ) (i : Nat) (v : Vec) : Int := match S[i]? with
 | some x => min 2 (cntP x v)
 | none => 0
def FR (S : List Typ) (i : Nat) (v : Vec) : Int := match S[i]? with
 | some x => cntR x v
 | none => 0
theorem FR_grows {S : List Typ} (hS : ∀ x ∈ S, q1S S.length x) : Grows S.length (FR S) := by
 refine ⟨fun u v hu hv huv i hi => ?_, fun u hu i hi => ?_⟩
 ·unfold FR
  rw [List.getElem?_eq_getElem hi]
  exact cntR_mono hu hv huv (hS _ (List.getElem_mem _))
 ·unfold FR
  rw [List.getElem?_eq_getElem hi]
  exact cntR_rng hu (hS _ (List.getElem_mem _))
theorem FP_rng {N : Nat} {v : Vec} (hv : inR N v) {x : Typ} (hx : q1S N x) : 0 <= min 2 (cntP x v) /\ min 2 (cntP x v) <= 2 := by
 by_cases h8 : x.kind = 8
 ·rw [cntP_8 h8]; split <;> omega
 ·rw [q6O hv hx h8]; exact cntR_rng hv hx
theorem FP_grows {S : List Typ} (hS : ∀ x ∈ S, q1S S.length x) : Grows S.length (FP S) := by
 refine ⟨fun u v hu hv huv i hi => ?_, fun u hu i hi => ?_⟩
 ·unfold FP
  rw [List.getElem?_eq_getElem hi]
  have hx := hS _ (List.getElem_mem hi)
  simp only
  by_cases h8 : S[i].kind = 8
  ·rw [cntP_8 h8, cntP_8 h8]
   have h1 := hx.elem (by omega)
   have h2 := hx.key h8
   have := hu S[i].elem.toNat (by omega)
   have := huv S[i].elem.toNat (by omega)
   have := hu S[i].key.toNat (by omega)
   have := huv S[i].key.toNat (by omega)
   split <;> split <;> omega
  ·rw [q6O hu hx h8, q6O hv hx h8]
   exact cntR_mono hu hv huv hx
 ·unfold FP
  rw [List.getElem?_eq_getElem hi]
  exact FP_rng hu (hS _ (List.getElem_mem _))
theorem FPR {S : List Typ} (hS : ∀ x ∈ S, q1S S.length x) (hk : ∀ x ∈ S, x.kind = 8 -> ∀ v, inR S.length v -> 1 <= FP S x.key.toNat v) {v w : Vec} (hv : Low S.length (FP S) v) (hvf : ∀ j, j < S.length -> FP S j v = v j) (hw : Low S.length (FR S) w) (hwf : ∀ j, j < S.length -> FR S j w = w j) : ∀ j, j < S.length -> v j = w j := by
 have e : ∀ j, j < S.length -> FR S j v = FP S j v := fun j hj => by
  unfold FR FP
  rw [List.getElem?_eq_getElem hj]
  have hx := hS _ (List.getElem_mem hj)
  simp only
  by_cases h8 : S[j].kind = 8
  ·rw [cntP_8 h8, cntR_8 h8]
   have h2 := hx.key h8
   have := hk _ (List.getElem_mem hj) h8 v hv.rng
   rw [hvf _ (by omega)] at this
   have : ¬ v S[j].key.toNat = 0 := by omega
   simp [this]
  ·exact (q6O hv.rng hx h8).symm
 have hle : ∀ u, inR S.length u -> ∀ j, j < S.length -> FP S j u <= FR S j u := fun u hu j hj => by
  unfold FR FP
  rw [List.getElem?_eq_getElem hj]
  have hx := hS _ (List.getElem_mem hj)
  simp only
  by_cases h8 : S[j].kind = 8
  ·rw [cntP_8 h8, cntR_8 h8]; split <;> split <;> omega
  ·rw [q6O hu hx h8]; exact Int.le_refl _
 have h1 : ∀ j, j < S.length -> w j <= v j := hw.least v hv.rng fun j hj => by rw [e j hj, hvf j hj]; exact Int.le_refl _
 have h2 : ∀ j, j < S.length -> v j <= w j := hv.least w hw.rng fun j hj => by rw [<- hwf j hj]; exact hle w hw.rng j hj
 intro j hj
 have := h1 j hj
 have := h2 j hj
 omega
end Go.Proofs.YtdjomefkhdimaaaGreat
namespace Go.Proofs.YtdjomefkhdimaaaGreat
open Go
set_option maxRecDepth 10000
set_option maxHeartbeats 8000000
set_option linter.unusedSimpArgs false
theorem cr_ev1 {N : Nat} {v : Vec} (hv : inR N v) {x : Typ} (hx : q1S N x) (h : x.kind = 1) : evA 47 [.agg (typC x), .bl (vecC N v)] (.int .i64 (cntR x v)) := by
 refine q00 (c := q0c) rfl rfl ?_
 simp [q0c, -Option.bind_some, -Int.toNat_lt, -List.map_map, List.range_succ, typC, h, cntR]
theorem cr_ev2 {N : Nat} {v : Vec} (hv : inR N v) {x : Typ} (hx : q1S N x) (h : x.kind = 2) : evA 47 [.agg (typC x), .bl (vecC N v)] (.int .i64 (cntR x v)) := by
 refine q00 (c := q0c) rfl rfl ?_
 by_cases c1 : x.low = x.high
 ·simp [q0c, -Option.bind_some, -Int.toNat_lt, -List.map_map, List.range_succ, typC, h, cntR, c1]
 ·simp [q0c, -Option.bind_some, -Int.toNat_lt, -List.map_map, List.range_succ, typC, h, cntR, c1]
theorem cr_ev3 {N : Nat} {v : Vec} (hv : inR N v) {x : Typ} (hx : q1S N x) (h : x.kind = 3) : evA 47 [.agg (typC x), .bl (vecC N v)] (.int .i64 (cntR x v)) := by
 refine q00 (c := q0c) rfl rfl ?_
 by_cases c1 : x.max = 0
 ·simp [q0c, -Option.bind_some, -Int.toNat_lt, -List.map_map, List.range_succ, typC, h, cntR, c1]
 ·simp [q0c, -Option.bind_some, -Int.toNat_lt, -List.map_map, List.range_succ, typC, h, cntR, c1]
theorem cr_ev4 {N : Nat} {v : Vec} (hv : inR N v) {x : Typ} (hx : q1S N x) (h : x.kind = 4) : evA 47 [.agg (typC x), .bl (vecC N v)] (.int .i64 (cntR x v)) := by
 refine q00 (c := q0c) rfl rfl ?_
 simp [q0c, -Option.bind_some, -Int.toNat_lt, -List.map_map, List.range_succ, typC, h, cntR]
theorem cr_ev7 {N : Nat} {v : Vec} (hv : inR N v) {x : Typ} (hx : q1S N x) (h : x.kind = 7) : evA 47 [.agg (typC x), .bl (vecC N v)] (.int .i64 (cntR x v)) := by
 refine q00 (c := q0c) rfl rfl ?_
 have hel := hx.elem (by omega)
 have gel := q23 v hel
 have he0 := hel.1
 by_cases c1 : x.max = 0
 ·simp [q0c, -Option.bind_some, -Int.toNat_lt, -List.map_map, List.range_succ, typC, h, cntR, c1]
 ·by_cases c2 : v x.elem.toNat = 0
  ·simp [q0c, -Option.bind_some, -Int.toNat_lt, -List.map_map, List.range_succ, typC, h, cntR, c1, c2, gel, he0]
  ·simp [q0c, -Option.bind_some, -Int.toNat_lt, -List.map_map, List.range_succ, typC, h, cntR, c1, c2, gel, he0]
theorem cr_ev8 {N : Nat} {v : Vec} (hv : inR N v) {x : Typ} (hx : q1S N x) (h : x.kind = 8) : evA 47 [.agg (typC x), .bl (vecC N v)] (.int .i64 (cntR x v)) := by
 refine q00 (c := q0c) rfl rfl ?_
 have hel := hx.elem (by omega)
 have gel := q23 v hel
 have he0 := hel.1
 by_cases c1 : x.max = 0
 ·simp [q0c, -Option.bind_some, -Int.toNat_lt, -List.map_map, List.range_succ, typC, h, cntR, c1]
 ·by_cases c2 : v x.elem.toNat = 0
  ·simp [q0c, -Option.bind_some, -Int.toNat_lt, -List.map_map, List.range_succ, typC, h, cntR, c1, c2, gel, he0]
  ·simp [q0c, -Option.bind_some, -Int.toNat_lt, -List.map_map, List.range_succ, typC, h, cntR, c1, c2, gel, he0]
theorem cr_ev9 {N : Nat} {v : Vec} (hv : inR N v) {x : Typ} (hx : q1S N x) (h : x.kind = 9) : evA 47 [.agg (typC x), .bl (vecC N v)] (.int .i64 (cntR x v)) := by
 refine q00 (c := q0c) rfl rfl ?_
 have hel := hx.elem (by omega)
 have gel := q23 v hel
 have he0 := hel.1
 have ve := hv x.elem.toNat (by omega)
 have hw : IntKind.i64.wrap (1 + v x.elem.toNat) = 1 + v x.elem.toNat := IntWalk.i64_in _ (by omega)
 simp [q0c, -Option.bind_some, -Int.toNat_lt, -List.map_map, List.range_succ, typC, h, cntR, gel, he0, hw]
theorem cr_ev5 {N : Nat} {v : Vec} (hv : inR N v) {x : Typ} (hx : q1S N x) (h : x.kind = 5) : evA 47 [.agg (typC x), .bl (vecC N v)] (.int .i64 (cntR x v)) := by
 refine q00 (c := q0c) rfl rfl ?_
 simp [q0c, -Option.bind_some, -Int.toNat_lt, -List.map_map, List.range_succ, typC, h, cntR]
 refine q0h x.mems.length (fun i s => (s.env 1).v = .bl (vecC N v) /\ (s.env 2).v = .ptr 2 1 0 /\ s.mem 2 1 = some (q1E x) /\ (s.env 6).v = .int .i64 i /\ ∃ a, (s.env 5).v = .int .i64 a /\ recF v (x.mems.drop i) a = recF v x.mems 1 /\ 0 <= a /\ a <= 2)
  (fun e s => e = .exit 1 /\ (s.env 5).v = .int .i64 (recF v x.mems 1)) (fun i hi s k h' ih hk => ?_) _ _ ?_ (fun e s h' => ?_)
 ·obtain ⟨e1, e2, e3, e4, a, ea, hs, hb⟩ := h'
  refine q05 ?_
  by_cases hlt : i < x.mems.length
  ·have hlt' : (i : Int) < x.mems.length := by omega
   have g1 : (x.mems.map memC)[i]? = some (memC x.mems[i]) := by simp [hlt]
   have hw := q1d (i := i) (by have := hx.few; omega)
   have hmt := hx.mems x.mems[i] (List.getElem_mem _)
   rw [List.drop_eq_getElem_cons hlt, recF] at hs
   generalize x.mems[i] = m at *
   have hvm := hv m.ty.toNat (by omega)
   have gm := q23 v hmt
   have hm0 := hmt.1
   have hm2 := Int.mul_nonneg hb.1 hvm.1
   have hm3 : a * v m.ty.toNat <= 2 * 2 := mul_mono hb.1 hb.2 hvm.1 hvm.2
   have hw2 : IntKind.i64.wrap (a * v m.ty.toNat) = a * v m.ty.toNat := IntWalk.i64_in _ (by omega)
   simp only [memC] at g1
   simp [q3V, -Option.bind_some, -Int.toNat_lt, -List.map_map, List.range_succ, e1, e2, e3, e4, ea, hlt', g1, gm, hm0, hw, hw2]
   refine ih hlt _ ⟨?_, ?_, ?_, ?_, min 2 (a * v m.ty.toNat), ?_, hs, by omega⟩ <;> simp [e1, e2, e3]
  ·have hlt' : ¬ (i : Int) < x.mems.length := by omega
   simp [q3V, -Option.bind_some, -Int.toNat_lt, -List.map_map, List.range_succ, e1, e2, e3, e4, hlt']
   rw [List.drop_eq_nil_of_le (by omega), recF] at hs
   exact hk _ _ ⟨rfl, by simp [ea, hs]⟩
 ·simp [typC, h]
 ·obtain ⟨rfl, ea⟩ := h'
  simp [-Option.bind_some, -Int.toNat_lt, -List.map_map, List.range_succ, ea]
theorem cr_ev6 {N : Nat} {v : Vec} (hv : inR N v) {x : Typ} (hx : q1S N x) (h : x.kind = 6) : evA 47 [.agg (typC x), .bl (vecC N v)] (.int .i64 (cntR x v)) := by
 refine q00 (c := q0c) rfl rfl ?_
 simp [q0c, -Option.bind_some, -Int.toNat_lt, -List.map_map, List.range_succ, typC, h, cntR]
 refine q0h x.mems.length (fun i s => (s.env 1).v = .bl (vecC N v) /\ (s.env 2).v = .ptr 2 1 0 /\ s.mem 2 1 = some (q1E x) /\ (s.env 8).v = .int .i64 i /\ ∃ a, (s.env 7).v = .int .i64 a /\ capF v (x.mems.drop i) a = capF v x.mems 0 /\ 0 <= a /\ a <= 2)
  (fun e s => e = .exit 3 /\ (s.env 7).v = .int .i64 (capF v x.mems 0)) (fun i hi s k h' ih hk => ?_) _ _ ?_ (fun e s h' => ?_)
 ·obtain ⟨e1, e2, e3, e4, a, ea, hs, hb⟩ := h'
  refine q05 ?_
  by_cases hlt : i < x.mems.length
  ·have hlt' : (i : Int) < x.mems.length := by omega
   have g1 : (x.mems.map memC)[i]? = some (memC x.mems[i]) := by simp [hlt]
   have hw := q1d (i := i) (by have := hx.few; omega)
   have hmt := hx.mems x.mems[i] (List.getElem_mem _)
   rw [List.drop_eq_getElem_cons hlt, capF] at hs
   generalize x.mems[i] = m at *
   have hvm := hv m.ty.toNat (by omega)
   have gm := q23 v hmt
   have hm0 := hmt.1
   have hw2 : IntKind.i64.wrap (a + v m.ty.toNat) = a + v m.ty.toNat := IntWalk.i64_in _ (by omega)
   simp only [memC] at g1
   simp [q3T, -Option.bind_some, -Int.toNat_lt, -List.map_map, List.range_succ, e1, e2, e3, e4, ea, hlt', g1, gm, hm0, hw, hw2]
   refine ih hlt _ ⟨?_, ?_, ?_, ?_, min 2 (a + v m.ty.toNat), ?_, hs, by omega⟩ <;> simp [e1, e2, e3]
  ·have hlt' : ¬ (i : Int) < x.mems.length := by omega
   simp [q3T, -Option.bind_some, -Int.toNat_lt, -List.map_map, List.range_succ, e1, e2, e3, e4, hlt']
   rw [List.drop_eq_nil_of_le (by omega), capF] at hs
   exact hk _ _ ⟨rfl, by simp [ea, hs]⟩
 ·simp [typC, h]
 ·obtain ⟨rfl, ea⟩ := h'
  simp [-Option.bind_some, -Int.toNat_lt, -List.map_map, List.range_succ, ea]
theorem cr_ev {N : Nat} {v : Vec} (hv : inR N v) {x : Typ} (hx : q1S N x) (hk : 1 <= x.kind /\ x.kind <= 9) : evA 47 [.agg (typC x), .bl (vecC N v)] (.int .i64 (cntR x v)) := by
 rcases q8b x.kind with e | e | e | e | e | e | e | e | e | e
 ·exact cr_ev1 hv hx e
 ·exact cr_ev2 hv hx e
 ·exact cr_ev3 hv hx e
 ·exact cr_ev4 hv hx e
 ·exact cr_ev5 hv hx e
 ·exact cr_ev6 hv hx e
 ·exact cr_ev7 hv hx e
 ·exact cr_ev8 hv hx e
 ·exact cr_ev9 hv hx e
 ·exact absurd hk e
end Go.Proofs.YtdjomefkhdimaaaGreat
namespace Go.Proofs.YtdjomefkhdimaaaGreat
open Go
set_option maxRecDepth 10000
set_option maxHeartbeats 8000000
set_option linter.unusedSimpArgs false
theorem cp_ev1 {N : Nat} {v : Vec} (hv : inR N v) {x : Typ} (hx : q1S N x) (h : x.kind = 1) : evA 46 [.agg (typC x), .bl (vecC N v)] (.int .i64 (cntP x v)) := by
 refine q00 (c := q09) rfl rfl ?_
 simp [q09, -Option.bind_some, -Int.toNat_lt, -List.map_map, List.range_succ, typC, h, cntP]
theorem cp_ev2 {N : Nat} {v : Vec} (hv : inR N v) {x : Typ} (hx : q1S N x) (h : x.kind = 2) : evA 46 [.agg (typC x), .bl (vecC N v)] (.int .i64 (cntP x v)) := by
 refine q00 (c := q09) rfl rfl ?_
 by_cases c1 : x.low = x.high
 ·simp [q09, -Option.bind_some, -Int.toNat_lt, -List.map_map, List.range_succ, typC, h, cntP, c1]
 ·simp [q09, -Option.bind_some, -Int.toNat_lt, -List.map_map, List.range_succ, typC, h, cntP, c1]
theorem cp_ev3 {N : Nat} {v : Vec} (hv : inR N v) {x : Typ} (hx : q1S N x) (h : x.kind = 3) : evA 46 [.agg (typC x), .bl (vecC N v)] (.int .i64 (cntP x v)) := by
 refine q00 (c := q09) rfl rfl ?_
 by_cases c1 : x.max = 0
 ·simp [q09, -Option.bind_some, -Int.toNat_lt, -List.map_map, List.range_succ, typC, h, cntP, c1]
 ·simp [q09, -Option.bind_some, -Int.toNat_lt, -List.map_map, List.range_succ, typC, h, cntP, c1]
theorem cp_ev4 {N : Nat} {v : Vec} (hv : inR N v) {x : Typ} (hx : q1S N x) (h : x.kind = 4) : evA 46 [.agg (typC x), .bl (vecC N v)] (.int .i64 (cntP x v)) := by
 refine q00 (c := q09) rfl rfl ?_
 simp [q09, -Option.bind_some, -Int.toNat_lt, -List.map_map, List.range_succ, typC, h, cntP]
theorem cp_ev7 {N : Nat} {v : Vec} (hv : inR N v) {x : Typ} (hx : q1S N x) (h : x.kind = 7) : evA 46 [.agg (typC x), .bl (vecC N v)] (.int .i64 (cntP x v)) := by
 refine q00 (c := q09) rfl rfl ?_
 have hel := hx.elem (by omega)
 have gel := q23 v hel
 have he0 := hel.1
 by_cases c1 : x.max = 0
 ·simp [q09, -Option.bind_some, -Int.toNat_lt, -List.map_map, List.range_succ, typC, h, cntP, c1]
 ·by_cases c2 : v x.elem.toNat = 0
  ·simp [q09, -Option.bind_some, -Int.toNat_lt, -List.map_map, List.range_succ, typC, h, cntP, c1, c2, gel, he0]
  ·simp [q09, -Option.bind_some, -Int.toNat_lt, -List.map_map, List.range_succ, typC, h, cntP, c1, c2, gel, he0]
theorem cp_ev8 {N : Nat} {v : Vec} (hv : inR N v) {x : Typ} (hx : q1S N x) (h : x.kind = 8) : evA 46 [.agg (typC x), .bl (vecC N v)] (.int .i64 (cntP x v)) := by
 refine q00 (c := q09) rfl rfl ?_
 have hel := hx.elem (by omega)
 have gel := q23 v hel
 have he0 := hel.1
 have hkl := hx.key h
 have gkl := q23 v hkl
 have hk0 := hkl.1
 by_cases c1 : x.max = 0
 ·simp [q09, -Option.bind_some, -Int.toNat_lt, -List.map_map, List.range_succ, typC, h, cntP, c1]
 ·by_cases c2 : v x.elem.toNat = 0
  ·simp [q09, -Option.bind_some, -Int.toNat_lt, -List.map_map, List.range_succ, typC, h, cntP, c1, c2, gel, he0]
  ·by_cases c3 : v x.key.toNat = 0
   ·simp [q09, -Option.bind_some, -Int.toNat_lt, -List.map_map, List.range_succ, typC, h, cntP, c1, c2, c3, gel, he0, gkl, hk0]
   ·simp [q09, -Option.bind_some, -Int.toNat_lt, -List.map_map, List.range_succ, typC, h, cntP, c1, c2, c3, gel, he0, gkl, hk0]
theorem cp_ev9 {N : Nat} {v : Vec} (hv : inR N v) {x : Typ} (hx : q1S N x) (h : x.kind = 9) : evA 46 [.agg (typC x), .bl (vecC N v)] (.int .i64 (cntP x v)) := by
 refine q00 (c := q09) rfl rfl ?_
 have hel := hx.elem (by omega)
 have gel := q23 v hel
 have he0 := hel.1
 have ve := hv x.elem.toNat (by omega)
 have hw : IntKind.i64.wrap (1 + v x.elem.toNat) = 1 + v x.elem.toNat := IntWalk.i64_in _ (by omega)
 simp [q09, -Option.bind_some, -Int.toNat_lt, -List.map_map, List.range_succ, typC, h, cntP, gel, he0, hw]
theorem cp_ev5 {N : Nat} {v : Vec} (hv : inR N v) {x : Typ} (hx : q1S N x) (h : x.kind = 5) : evA 46 [.agg (typC x), .bl (vecC N v)] (.int .i64 (cntP x v)) := by
 refine q00 (c := q09) rfl rfl ?_
 simp [q09, -Option.bind_some, -Int.toNat_lt, -List.map_map, List.range_succ, typC, h, cntP]
 refine q0h x.mems.length (fun i s => (s.env 1).v = .bl (vecC N v) /\ (s.env 33).v = .sl x.mn (x.mems.map memC) /\ (s.env 34).v = .int .i64 x.mems.length /\ (s.env 35).v = .int .i64 i /\ ∃ a, (s.env 5).v = .int .i64 a /\ recF v (x.mems.drop i) a = recF v x.mems 1 /\ 0 <= a /\ a <= 2)
  (fun e s => e = .exit 1 /\ (s.env 5).v = .int .i64 (recF v x.mems 1)) (fun i hi s k h' ih hk => ?_) _ _ ?_ (fun e s h' => ?_)
 ·obtain ⟨e1, e2, e3, e4, a, ea, hs, hb⟩ := h'
  refine q05 ?_
  by_cases hlt : i < x.mems.length
  ·have hlt' : (i : Int) < x.mems.length := by omega
   have g1 : (x.mems.map memC)[i]? = some (memC x.mems[i]) := by simp [hlt]
   have hw := q1d (i := i) (by have := hx.few; omega)
   have hmt := hx.mems x.mems[i] (List.getElem_mem _)
   rw [List.drop_eq_getElem_cons hlt, recF] at hs
   generalize x.mems[i] = m at *
   have hvm := hv m.ty.toNat (by omega)
   have gm := q23 v hmt
   have hm0 := hmt.1
   have hm2 := Int.mul_nonneg hb.1 hvm.1
   have hm3 : a * v m.ty.toNat <= 2 * 2 := mul_mono hb.1 hb.2 hvm.1 hvm.2
   have hw2 : IntKind.i64.wrap (a * v m.ty.toNat) = a * v m.ty.toNat := IntWalk.i64_in _ (by omega)
   simp only [memC] at g1
   simp [q32, -Option.bind_some, -Int.toNat_lt, -List.map_map, List.range_succ, e1, e2, e3, e4, ea, hlt', g1, gm, hm0, hw, hw2]
   refine ih hlt _ ⟨?_, ?_, ?_, ?_, min 2 (a * v m.ty.toNat), ?_, hs, by omega⟩ <;> simp [e1, e2, e3]
  ·have hlt' : ¬ (i : Int) < x.mems.length := by omega
   simp [q32, -Option.bind_some, -Int.toNat_lt, -List.map_map, List.range_succ, e1, e2, e3, e4, hlt']
   rw [List.drop_eq_nil_of_le (by omega), recF] at hs
   exact hk _ _ ⟨rfl, by simp [ea, hs]⟩
 ·simp [typC, h]
 ·obtain ⟨rfl, ea⟩ := h'
  simp [-Option.bind_some, -Int.toNat_lt, -List.map_map, List.range_succ, ea]
theorem cp_ev6 {N : Nat} {v : Vec} (hv : inR N v) {x : Typ} (hx : q1S N x) (h : x.kind = 6) : evA 46 [.agg (typC x), .bl (vecC N v)] (.int .i64 (cntP x v)) := by
 refine q00 (c := q09) rfl rfl ?_
 simp [q09, -Option.bind_some, -Int.toNat_lt, -List.map_map, List.range_succ, typC, h, cntP]
 refine q0h x.mems.length (fun i s => (s.env 1).v = .bl (vecC N v) /\ (s.env 52).v = .sl x.mn (x.mems.map memC) /\ (s.env 53).v = .int .i64 x.mems.length /\ (s.env 54).v = .int .i64 i /\ ∃ a, (s.env 8).v = .int .i64 a /\ sumF v (x.mems.drop i) a = sumF v x.mems 0 /\ 0 <= a /\ a <= 2 * i)
  (fun e s => e = .exit 3 /\ (s.env 8).v = .int .i64 (sumF v x.mems 0)) (fun i hi s k h' ih hk => ?_) _ _ ?_ (fun e s h' => ?_)
 ·obtain ⟨e1, e2, e3, e4, a, ea, hs, hb⟩ := h'
  refine q05 ?_
  by_cases hlt : i < x.mems.length
  ·have hlt' : (i : Int) < x.mems.length := by omega
   have g1 : (x.mems.map memC)[i]? = some (memC x.mems[i]) := by simp [hlt]
   have hw := q1d (i := i) (by have := hx.few; omega)
   have hmt := hx.mems x.mems[i] (List.getElem_mem _)
   rw [List.drop_eq_getElem_cons hlt, sumF] at hs
   generalize x.mems[i] = m at *
   have hvm := hv m.ty.toNat (by omega)
   have gm := q23 v hmt
   have hm0 := hmt.1
   have hw2 : IntKind.i64.wrap (a + v m.ty.toNat) = a + v m.ty.toNat := IntWalk.i64_in _ (by have := hx.few; omega)
   simp only [memC] at g1
   simp [q3g, -Option.bind_some, -Int.toNat_lt, -List.map_map, List.range_succ, e1, e2, e3, e4, ea, hlt', g1, gm, hm0, hw, hw2]
   refine ih hlt _ ⟨?_, ?_, ?_, ?_, a + v m.ty.toNat, ?_, hs, by omega⟩ <;> simp [e1, e2, e3]
  ·have hlt' : ¬ (i : Int) < x.mems.length := by omega
   simp [q3g, -Option.bind_some, -Int.toNat_lt, -List.map_map, List.range_succ, e1, e2, e3, e4, hlt']
   rw [List.drop_eq_nil_of_le (by omega), sumF] at hs
   exact hk _ _ ⟨rfl, by simp [ea, hs]⟩
 ·simp [typC, h]
 ·obtain ⟨rfl, ea⟩ := h'
  simp [-Option.bind_some, -Int.toNat_lt, -List.map_map, List.range_succ, ea]
theorem cp_ev {N : Nat} {v : Vec} (hv : inR N v) {x : Typ} (hx : q1S N x) (hk : 1 <= x.kind /\ x.kind <= 9) : evA 46 [.agg (typC x), .bl (vecC N v)] (.int .i64 (cntP x v)) := by
 rcases q8b x.kind with e | e | e | e | e | e | e | e | e | e
 ·exact cp_ev1 hv hx e
 ·exact cp_ev2 hv hx e
 ·exact cp_ev3 hv hx e
 ·exact cp_ev4 hv hx e
 ·exact cp_ev5 hv hx e
 ·exact cp_ev6 hv hx e
 ·exact cp_ev7 hv hx e
 ·exact cp_ev8 hv hx e
 ·exact cp_ev9 hv hx e
 ·exact absurd hk e
end Go.Proofs.YtdjomefkhdimaaaGreat
namespace Go.Proofs.YtdjomefkhdimaaaGreat
open Go
set_option maxRecDepth 10000
set_option maxHeartbeats 8000000
set_option linter.unusedSimpArgs false
theorem q81 {l : List Mem} (h : q19 l [] = true) : l = [] := by
 cases l with
 | nil => rfl
 | cons => simp [q19] at h
theorem good_few {t : Typ} (h : q25 t = true) : t.mems.length <= 16 := by
 have hk := q4o h
 unfold q25 typOk Typ.left at h
 rcases q8b t.kind with e | e | e | e | e | e | e | e | e | e
 all_goals first | exact absurd hk e | skip
 all_goals simp [e, Typ.same, q2r, q5x] at h
 all_goals first
  | (obtain ⟨⟨_, h⟩, _⟩ := h; omega)
  | (have := q81 h.2; rw [this]; simp)
  | (have := q81 h.2.2; rw [this]; simp)
  | omega
theorem q5S {S : List Typ} (h : valid S = 0) : ∀ x ∈ S, q1S S.length x := fun x hx => by
 obtain ⟨j, hj, rfl⟩ := List.getElem_of_mem hx
 obtain ⟨h1, h2⟩ := q6e (q55 h j hj)
 generalize S[j] = t at *
 have use : ∀ u ∈ t.usesL, 0 <= u /\ u < S.length := fun u hu => by
  have := List.any_eq_false.1 h2 u hu
  simp [q0I] at this
  omega
 refine ⟨fun m hm => use _ ?_, good_few h1, fun h7 => use _ ?_, fun h8 => key_in h8 h2⟩
 ·unfold Typ.usesL
  exact List.mem_append_left _ (List.mem_append_left _ (List.mem_map_of_mem hm))
 ·unfold Typ.usesL
  rw [if_pos h7]
  exact List.mem_append_right _ (by simp)
theorem q58 {S : List Typ} (h : valid S = 0) : S.length <= 32 := by
 unfold valid at h
 by_cases h32 : 32 < S.length
 ·rw [if_pos h32] at h; cases h
 ·omega
theorem vec0 (N : Nat) : (List.replicate N [AV.int .i64 0]).flatten.map (fun v => (⟨v, .no⟩ : Slot)) = q0d (vecC N fun _ => 0) := by
 unfold q0d
 congr 1
 congr 1
 apply List.ext_getElem?
 intro i
 by_cases h : i < N
 ·simp [vecC, h]
 ·simp [vecC, h]
theorem vec0' (N : Nat) : List.replicate N (⟨AV.int .i64 0, .no⟩ : Slot) = q0d (vecC N fun _ => 0) := by
 rw [<- vec0]
 simp
theorem vec_els (N : Nat) (v : Vec) : q3Z (q0d (vecC N v)) 1 0 N = some (vecC N v) := by
 have := rowOf_els (q8x N v) (vecC_free N v)
 rwa [q8D] at this
theorem vec_load (N : Nat) (v : Vec) {i : Nat} (hi : i < N) : q1n false 1 i (q0d (vecC N v)) = some ⟨.int .i64 (v i), .no⟩ := rowOf_load1 (q8x N v) (by have := q23 v (t := (i : Int)) (N := N) (by omega); simpa using this) 1
theorem vec_at (N : Nat) (v : Vec) {i : Nat} (hi : i < N) : (q0d (vecC N v))[i]? = some ⟨.int .i64 (v i), .no⟩ := rowOf_at (q8x N v) (by have := q23 v (t := (i : Int)) (N := N) (by omega); simpa using this)
theorem vec_store (N : Nat) (v w : Vec) {i : Nat} (hi : i < N) {x : Int} (hx : w i = x) (h : ∀ j, j ≠ i -> w j = v j) : q0n false 1 i (q0d (vecC N v)) (.int .i64 x) .no = some (q0d (vecC N w)) := by
 rw [rowOf_store1 (q8x N v) (by rw [q8D]; exact hi) rfl, vecC_set v w hx h]
theorem lfp {N : Nat} {F : Nat -> Vec -> Int} (G : Grows N F) : ∃ w, Low N F w /\ ∀ j, j < N -> F j w = w j := by
 have : ∀ (k : Nat) (v : Vec), Low N F v -> 2 * (N : Int) - sumV N v <= k -> ∃ w, Low N F w /\ ∀ j, j < N -> F j w = w j := by
  intro k
  induction k with
  | zero =>
   intro v hv hk
   refine ⟨v, hv, fun j hj => Classical.byContradiction fun hne => ?_⟩
   have h1 := sumV_le _ N (Low.upd G hv hj).rng
   rw [q71 F v j N hj] at h1
   have := hv.post j hj
   omega
  | succ k ih =>
   intro v hv hk
   by_cases h : ∀ j, j < N -> F j v = v j
   ·exact ⟨v, hv, h⟩
   ·obtain ⟨j, hj⟩ := Classical.not_forall.1 h
    obtain ⟨hj, hne⟩ := Classical.not_imp.1 hj
    refine ih (upd F v j) (Low.upd G hv hj) ?_
    rw [q71 F v j N hj]
    have := hv.post j hj
    omega
 exact this (2 * N) _ (Low.zero G) (by have := sumV_0 (fun _ => 0) N (fun j _ => ⟨Int.le_refl _, by show (0 : Int) <= 2; decide⟩); omega)
theorem lfp_eq {N : Nat} {F : Nat -> Vec -> Int} {v w : Vec} (hv : Low N F v) (fv : ∀ j, j < N -> F j v = v j) (hw : Low N F w) (fw : ∀ j, j < N -> F j w = w j) : ∀ j, j < N -> v j = w j := fun j hj => by
 have h1 := hv.least w hw.rng (fun j hj => by rw [fw j hj]; exact Int.le_refl _) j hj
 have h2 := hw.least v hv.rng (fun j hj => by rw [fv j hj]; exact Int.le_refl _) j hj
 omega
theorem q4X {N : Nat} {v w : Vec} (h : ∀ j, j < N -> v j = w j) : vecC N v = vecC N w := by
 unfold vecC
 exact List.map_congr_left fun j hj => by rw [h j (List.mem_range.1 hj)]
theorem counts_ev (s : Sch) (h0 : valid s.types = 0) {w : Vec} (hw : Low s.types.length (FP s.types) w) (fw : ∀ j, j < s.types.length -> FP s.types j w = w j) : evA 31 [.agg (schC s)] (.sl false (vecC s.types.length w)) := by
 have hW := q5S h0
 have hN := q58 h0
 have hG := FP_grows hW
 have hkind : ∀ x ∈ s.types, 1 <= x.kind /\ x.kind <= 9 := fun x hx => by
  obtain ⟨j, hj, rfl⟩ := List.getElem_of_mem hx
  exact q4o (q6e (q55 h0 j hj)).1
 clear h0
 simp only [schC]
 generalize s.types = S at *
 generalize s.nl = b at *
 obtain ⟨N, hNN⟩ : ∃ N, N = S.length := ⟨_, rfl⟩
 rw [<- hNN] at hW hN hG hw fw ⊢
 have hroom : q1D 8 N = true := by rw [q0q]; omega
 have hr1 : (N : Int) = (S.length : Int) := by omega
 refine q00 (c := q2V) rfl rfl ?_
 have hb8 : N * 8 <= 140737488355328 := by omega
 have hb1 : N <= 140737488355328 := by omega
 simp [q2V, -Option.bind_some, -Int.toNat_lt, -List.map_map, List.range_succ, -q1n, -q0n, q1G, q1V, q0W, q0V, <- hNN, hb8, hb1]
 refine q0h (2 * N + 1) (fun r σ => (σ.env 1).v = .ptr 1 1 0 /\ σ.mem 1 1 = some [⟨.sl b (S.map typC), .no⟩] /\ (σ.env 3).v = .ref 11 2 1 0 N N /\ ∃ v, σ.mem 11 2 = some (q0d (vecC N v)) /\ Low N (FP S) v /\ ((σ.env 4).v = .bool true /\ (r : Int) <= sumV N v \/ (σ.env 4).v = .bool false /\ ∀ j, j < N -> FP S j v = v j))
  (fun e σ => e = .exit 0 /\ (σ.env 3).v = .ref 11 2 1 0 N N /\ ∃ v, σ.mem 11 2 = some (q0d (vecC N v)) /\ Low N (FP S) v /\ ∀ j, j < N -> FP S j v = v j) (fun r hr σ k h ih hk => ?_) _ _ ?_ (fun e σ h => ?_)
 ·obtain ⟨e1, m1, e3, v0, m3, hv0, hst⟩ := h
  refine q05 ?_
  rcases hst with ⟨e4, hsum⟩ | ⟨e4, hfix⟩
  case inr =>
   simp [q2X, -Option.bind_some, -Int.toNat_lt, -List.map_map, List.range_succ, -q1n, -q0n, q1G, q1V, q0W, q0V, e4]
   exact hk _ _ ⟨rfl, by simp [e3], v0, by simp [m3], hv0, hfix⟩
  have hrN : r < 2 * N + 1 := by
   have := sumV_le v0 N hv0.rng
   omega
  simp [q2X, -Option.bind_some, -Int.toNat_lt, -List.map_map, List.range_succ, -q1n, -q0n, q1G, q1V, q0W, q0V, e1, m1, e4, <- hNN]
  refine q0h N (fun i σ => (σ.env 1).v = .ptr 1 1 0 /\ σ.mem 1 1 = some [⟨.sl b (S.map typC), .no⟩] /\ (σ.env 3).v = .ref 11 2 1 0 N N /\ (σ.env 14).v = .sl b (S.map typC) /\ (σ.env 15).v = .int .i64 N /\ (σ.env 16).v = .int .i64 i /\ ∃ v, σ.mem 11 2 = some (q0d (vecC N v)) /\ Low N (FP S) v /\ ((σ.env 4).v = .bool false /\ v = v0 /\ (∀ j, j < i -> FP S j v = v j) \/ (σ.env 4).v = .bool true /\ sumV N v0 + 1 <= sumV N v))
   (fun e σ => e = .exit 2 /\ (σ.env 1).v = .ptr 1 1 0 /\ σ.mem 1 1 = some [⟨.sl b (S.map typC), .no⟩] /\ (σ.env 3).v = .ref 11 2 1 0 N N /\ ∃ v, σ.mem 11 2 = some (q0d (vecC N v)) /\ Low N (FP S) v /\ ((σ.env 4).v = .bool false /\ (∀ j, j < N -> FP S j v = v j) \/ (σ.env 4).v = .bool true /\ sumV N v0 + 1 <= sumV N v)) (fun i hi σ k' h ih' hk' => ?_) _ _ ?_ (fun e σ h => ?_)
  ·obtain ⟨f1, n1, f3, f14, f15, f16, v, n3, hv, hst⟩ := h
   refine q05 ?_
   by_cases hlt : i < N
   ·have hlt' : (i : Int) < N := by omega
    have hltS : i < S.length := by omega
    have g1 : (S.map typC)[i]? = some (typC S[i]) := by simp [hltS]
    have hw' := q1d (i := i) (by omega)
    have hc := cp_ev hv.rng (hW _ (List.getElem_mem hltS)) (hkind _ (List.getElem_mem hltS))
    have hF : FP S i v = min 2 (cntP S[i] v) := by unfold FP; rw [List.getElem?_eq_getElem hltS]
    generalize S[i] = x at *
    simp only [typC] at g1
    simp only [evA, typC] at hc
    have hel := vec_els N v
    have hld := vec_load N v hlt
    have hat := vec_at N v hlt
    have hpost := hv.post i hlt
    have hup := Low.upd hG hv hlt
    have hsu := q71 (FP S) v i N hlt
    have hstv := vec_store N v (upd (FP S) v i) hlt (x := FP S i v) (by simp [upd]) (fun j hj => by simp [upd, hj])
    rw [hF] at hpost hsu hstv
    by_cases hne : min 2 (cntP x v) = v i
    ·rcases hst with ⟨f4, rfl, hj⟩ | ⟨f4, hsum'⟩
     ·simp [q1C, -Option.bind_some, -Int.toNat_lt, -List.map_map, List.range_succ, -q1n, -q0n, q1G, q1V, q0W, q0V, f1, n1, f3, f14, f15, f16, n3, hlt', g1, hel, hc, hld, hat, hw', hlt, hne]
      refine ih' hlt _ ⟨?_, ?_, ?_, ?_, ?_, ?_, v, ?_, hv, .inl ⟨?_, rfl, fun j hj' => ?_⟩⟩
      case refine_9 => 
       rcases Nat.lt_succ_iff_lt_or_eq.1 hj' with h | rfl
       ·exact hj j h
       ·exact hF.trans hne
      all_goals simp [f1, n1, f3, f14, f15, n3, f4]
     ·simp [q1C, -Option.bind_some, -Int.toNat_lt, -List.map_map, List.range_succ, -q1n, -q0n, q1G, q1V, q0W, q0V, f1, n1, f3, f14, f15, f16, n3, hlt', g1, hel, hc, hld, hat, hw', hlt, hne]
      refine ih' hlt _ ⟨?_, ?_, ?_, ?_, ?_, ?_, v, ?_, hv, .inr ⟨?_, hsum'⟩⟩
      all_goals simp [f1, n1, f3, f14, f15, n3, f4]
    ·simp [q1C, -Option.bind_some, -Int.toNat_lt, -List.map_map, List.range_succ, -q1n, -q0n, q1G, q1V, q0W, q0V, f1, n1, f3, f14, f15, f16, n3, hlt', g1, hel, hc, hld, hat, hw', hlt, hne, hstv]
     refine ih' hlt _ ⟨?_, ?_, ?_, ?_, ?_, ?_, upd (FP S) v i, ?_, hup, .inr ⟨?_, ?_⟩⟩
     case refine_9 =>
      rcases hst with ⟨f4, rfl, hj⟩ | ⟨f4, hsum'⟩ <;> omega
     all_goals simp [f1, n1, f3, f14, f15, n3]
   ·have hlt' : ¬ (i : Int) < N := by omega
    have hiN : i = N := by omega
    simp [q1C, -Option.bind_some, -Int.toNat_lt, -List.map_map, List.range_succ, -q1n, -q0n, q1G, q1V, q0W, q0V, f15, f16, hlt']
    refine hk' _ _ ⟨rfl, by simp [f1], by simp [n1], by simp [f3], v, by simp [n3], hv, ?_⟩
    rcases hst with ⟨f4, rfl, hj⟩ | ⟨f4, hsum'⟩
    ·exact .inl ⟨by simp [f4], hiN ▸ hj⟩
    ·exact .inr ⟨by simp [f4], hsum'⟩
  ·refine ⟨?_, ?_, ?_, ?_, ?_, ?_, v0, ?_, hv0, .inl ⟨?_, rfl, fun j hj => absurd hj (by omega)⟩⟩
   all_goals simp [e1, m1, e3, m3]
  ·obtain ⟨rfl, e1, m1, e3, v, m3, hv, hst⟩ := h
   simp [-Option.bind_some, -Int.toNat_lt, -List.map_map, List.range_succ, -q1n, -q0n, q1G, q1V, q0W, q0V]
   refine ih hrN _ ⟨by simp [e1], by simp [m1], by simp [e3], v, by simp [m3], hv, ?_⟩
   rcases hst with ⟨e4, hf⟩ | ⟨e4, hs⟩
   ·exact .inr ⟨by simp [e4], hf⟩
   ·exact .inl ⟨by simp [e4], by omega⟩
 ·refine ⟨?_, ?_, ?_, fun _ => 0, ?_, Low.zero hG, .inl ⟨?_, ?_⟩⟩
  case refine_4 => simp [vec0']
  case refine_6 => exact sumV_0 _ N (fun j _ => ⟨Int.le_refl _, by show (0 : Int) <= 2; decide⟩)
  all_goals simp
 ·obtain ⟨rfl, e3, v, m3, hv, hf⟩ := h
  have hel := vec_els N v
  rw [q4X (lfp_eq hv hf hw fw)] at hel
  rw [q4X (lfp_eq hv hf hw fw)] at m3
  simp [-Option.bind_some, -Int.toNat_lt, -List.map_map, List.range_succ, -q1n, -q0n, q1G, q1V, q0W, q0V, e3, m3, hel]
end Go.Proofs.YtdjomefkhdimaaaGreat
namespace Go.Proofs.YtdjomefkhdimaaaGreat
open Go
set_option maxRecDepth 10000
set_option maxHeartbeats 8000000
set_option linter.unusedSimpArgs false
theorem rcounts_ev (s : Sch) (h0 : valid s.types = 0) {w : Vec} (hw : Low s.types.length (FR s.types) w) (fw : ∀ j, j < s.types.length -> FR s.types j w = w j) : evA 32 [.agg (schC s)] (.sl false (vecC s.types.length w)) := by
 have hW := q5S h0
 have hN := q58 h0
 have hG := FR_grows hW
 have hkind : ∀ x ∈ s.types, 1 <= x.kind /\ x.kind <= 9 := fun x hx => by
  obtain ⟨j, hj, rfl⟩ := List.getElem_of_mem hx
  exact q4o (q6e (q55 h0 j hj)).1
 clear h0
 simp only [schC]
 generalize s.types = S at *
 generalize s.nl = b at *
 obtain ⟨N, hNN⟩ : ∃ N, N = S.length := ⟨_, rfl⟩
 rw [<- hNN] at hW hN hG hw fw ⊢
 have hb8 : N * 8 <= 140737488355328 := by omega
 have hb1 : N <= 140737488355328 := by omega
 have hw2 : IntKind.i64.wrap (2 * (N : Int)) = 2 * N := IntWalk.i64_in _ (by omega)
 refine q00 (c := q3E) rfl rfl ?_
 simp [q3E, -Option.bind_some, -Int.toNat_lt, -List.map_map, List.range_succ, -q1n, -q0n, q1G, q1V, q0W, q0V, <- hNN, hb8, hb1]
 refine q0h (2 * N + 1) (fun r σ => (σ.env 1).v = .ptr 1 1 0 /\ σ.mem 1 1 = some [⟨.sl b (S.map typC), .no⟩] /\ (σ.env 3).v = .ref 9 2 1 0 N N /\ (σ.env 4).v = .int .i64 r /\ ∃ v, σ.mem 9 2 = some (q0d (vecC N v)) /\ Low N (FR S) v /\ ((r : Int) <= sumV N v \/ ∀ j, j < N -> FR S j v = v j))
  (fun e σ => e = .exit 0 /\ (σ.env 3).v = .ref 9 2 1 0 N N /\ ∃ v, σ.mem 9 2 = some (q0d (vecC N v)) /\ Low N (FR S) v /\ ∀ j, j < N -> FR S j v = v j) (fun r hr σ k h ih hk => ?_) _ _ ?_ (fun e σ h => ?_)
 ·obtain ⟨e1, m1, e3, e4, v0, m3, hv0, hst⟩ := h
  refine q05 ?_
  by_cases hrN : r < 2 * N + 1
  case neg =>
   have hlt' : ¬ (r : Int) <= 2 * N := by omega
   simp [q3s, -Option.bind_some, -Int.toNat_lt, -List.map_map, List.range_succ, -q1n, -q0n, q1G, q1V, q0W, q0V, e1, m1, e4, <- hNN, hw2, hlt']
   refine hk _ _ ⟨rfl, by simp [e3], v0, by simp [m3], hv0, ?_⟩
   rcases hst with h | h
   ·have := sumV_le v0 N hv0.rng
    omega
   ·exact h
  have hlt' : (r : Int) <= 2 * N := by omega
  have hwr := q1d (i := r) (by omega)
  simp [q3s, -Option.bind_some, -Int.toNat_lt, -List.map_map, List.range_succ, -q1n, -q0n, q1G, q1V, q0W, q0V, e1, m1, e4, <- hNN, hw2, hlt']
  refine q0h N (fun i σ => (σ.env 1).v = .ptr 1 1 0 /\ σ.mem 1 1 = some [⟨.sl b (S.map typC), .no⟩] /\ (σ.env 3).v = .ref 9 2 1 0 N N /\ (σ.env 4).v = .int .i64 r /\ (σ.env 5).v = .int .i64 i /\ ∃ v, σ.mem 9 2 = some (q0d (vecC N v)) /\ Low N (FR S) v /\ ((∀ j, j < N -> FR S j v0 = v0 j) -> v = v0) /\ (v = v0 /\ (∀ j, j < i -> FR S j v = v j) \/ sumV N v0 + 1 <= sumV N v))
   (fun e σ => e = .exit 2 /\ (σ.env 1).v = .ptr 1 1 0 /\ σ.mem 1 1 = some [⟨.sl b (S.map typC), .no⟩] /\ (σ.env 3).v = .ref 9 2 1 0 N N /\ (σ.env 4).v = .int .i64 r /\ ∃ v, σ.mem 9 2 = some (q0d (vecC N v)) /\ Low N (FR S) v /\ ((∀ j, j < N -> FR S j v = v j) \/ (r : Int) + 1 <= sumV N v)) (fun i hi σ k' h ih' hk' => ?_) _ _ ?_ (fun e σ h => ?_)
  ·obtain ⟨f1, n1, f3, f4, f5, v, n3, hv, hfx, hst'⟩ := h
   refine q05 ?_
   by_cases hlt : i < N
   ·have hlt' : (i : Int) < N := by omega
    have hltS : i < S.length := by omega
    have g1 : (S.map typC)[i]? = some (typC S[i]) := by simp [hltS]
    have hw' := q1d (i := i) (by omega)
    have hc := cr_ev hv.rng (hW _ (List.getElem_mem hltS)) (hkind _ (List.getElem_mem hltS))
    have hF : FR S i v = cntR S[i] v := by unfold FR; rw [List.getElem?_eq_getElem hltS]
    generalize S[i] = x at *
    simp only [typC] at g1
    simp only [evA, typC] at hc
    have hel := vec_els N v
    have hpost := hv.post i hlt
    have hup := Low.upd hG hv hlt
    have hsu := q71 (FR S) v i N hlt
    have hstv := vec_store N v (upd (FR S) v i) hlt (x := FR S i v) (by simp [upd]) (fun j hj => by simp [upd, hj])
    have hsame : FR S i v = v i -> upd (FR S) v i = v := upd_same
    rw [hF] at hpost hsu hstv
    have hltS' : (i : Int) < S.length := by omega
    simp [q3p, -Option.bind_some, -Int.toNat_lt, -List.map_map, List.range_succ, -q1n, -q0n, q1G, q1V, q0W, q0V, f1, n1, f3, f4, f5, n3, hltS', g1, hel, hc, hw', hlt, hstv]
    refine ih' hlt _ ⟨?_, ?_, ?_, ?_, ?_, upd (FR S) v i, ?_, hup, ?_, ?_⟩
    case refine_7 =>
     intro hall
     have e := hfx hall
     subst e
     exact hsame (hall i hlt)
    case refine_8 =>
     by_cases hne : FR S i v = v i
     ·rw [hsame hne]
      rcases hst' with ⟨rfl, hj⟩ | hs
      ·refine .inl ⟨rfl, fun j hj' => ?_⟩
       rcases Nat.lt_succ_iff_lt_or_eq.1 hj' with h | rfl
       ·exact hj j h
       ·exact hne
      ·exact .inr hs
     ·right
      rw [hF] at hne
      rcases hst' with ⟨rfl, hj⟩ | hs <;> omega
    all_goals simp [f1, n1, f3, f4]
   ·have hlt' : ¬ (i : Int) < N := by omega
    have hiN : i = N := by omega
    simp [q3p, -Option.bind_some, -Int.toNat_lt, -List.map_map, List.range_succ, -q1n, -q0n, q1G, q1V, q0W, q0V, f1, n1, f5, <- hNN, hlt']
    refine hk' _ _ ⟨rfl, by simp [f1], by simp [n1], by simp [f3], by simp [f4], v, by simp [n3], hv, ?_⟩
    rcases hst with hr | hall
    ·rcases hst' with ⟨rfl, hj⟩ | hs
     ·exact .inl (hiN ▸ hj)
     ·exact .inr (by omega)
    ·rw [hfx hall]; exact .inl hall
  ·refine ⟨?_, ?_, ?_, ?_, ?_, v0, ?_, hv0, fun _ => rfl, .inl ⟨rfl, fun j hj => absurd hj (by omega)⟩⟩
   all_goals simp [e1, m1, e3, e4, m3]
  ·obtain ⟨rfl, f1, n1, f3, f4, v, n3, hv, hst'⟩ := h
   simp [-Option.bind_some, -Int.toNat_lt, -List.map_map, List.range_succ, -q1n, -q0n, q1G, q1V, q0W, q0V, f4, hwr]
   refine ih hrN _ ⟨by simp [f1], by simp [n1], by simp [f3], by simp, v, by simp [n3], hv, ?_⟩
   rcases hst' with h | h
   ·exact .inr h
   ·exact .inl (by omega)
 ·refine ⟨?_, ?_, ?_, ?_, fun _ => 0, ?_, Low.zero hG, .inl ?_⟩
  case refine_5 => simp [vec0']
  case refine_6 => exact sumV_0 _ N (fun j _ => ⟨Int.le_refl _, by show (0 : Int) <= 2; decide⟩)
  all_goals simp
 ·obtain ⟨rfl, e3, v, m3, hv, hf⟩ := h
  have hel := vec_els N v
  rw [q4X (lfp_eq hv hf hw fw)] at hel
  rw [q4X (lfp_eq hv hf hw fw)] at m3
  simp [-Option.bind_some, -Int.toNat_lt, -List.map_map, List.range_succ, -q1n, -q0n, q1G, q1V, q0W, q0V, e3, m3, hel]
theorem both_counts (s : Sch) (h0 : valid s.types = 0) : ∃ w : Vec, inR s.types.length w /\ evA 31 [.agg (schC s)] (.sl false (vecC s.types.length w)) /\ evA 32 [.agg (schC s)] (.sl false (vecC s.types.length w)) := by
 have hW := q5S h0
 obtain ⟨v, hv, fv⟩ := lfp (FP_grows hW)
 obtain ⟨w, hw, fw⟩ := lfp (FR_grows hW)
 have h1 := counts_ev s h0 hv fv
 have h2 := rcounts_ev s h0 hw fw
 refine ⟨v, hv.rng, h1, ?_⟩
 rw [q4X (FPR hW ?_ hv fv hw fw)]
 ·exact h2
 ·intro x hx h8 u hu
  obtain ⟨j, hj, rfl⟩ := List.getElem_of_mem hx
  have he := q55 h0 j hj
  obtain ⟨hg, ho⟩ := q6e he
  obtain ⟨k0, k1⟩ := key_in h8 ho
  have hlt : s.types[j].key.toNat < s.types.length := by omega
  have hkk : 1 <= s.types[s.types[j].key.toNat].kind /\ s.types[s.types[j].key.toNat].kind <= 4 := by
   have hka : q7Q s.types s.types[j].key = s.types[s.types[j].key.toNat].kind := by unfold q7Q; rw [List.getElem?_eq_getElem hlt]
   rw [<- hka]
   refine Classical.byContradiction fun hn => ?_
   unfold q1F at he
   rw [if_neg (by simp [hg])] at he
   by_cases h2 : s.types[j].named = true /\ s.types[j].name ∈ (s.types.take j).map Typ.name
   ·rw [if_pos h2] at he; cases he
   ·rw [if_neg h2, if_neg (by simp [ho]), if_pos ⟨h8, hn⟩] at he
    cases he
  have hgk := (q6e (q55 h0 _ hlt)).1
  unfold FP
  rw [List.getElem?_eq_getElem hlt]
  generalize s.types[s.types[j].key.toNat] = y at *
  have hy : y.kind = 1 \/ y.kind = 2 \/ y.kind = 3 \/ y.kind = 4 := by omega
  simp only
  rcases hy with e | e | e | e
  ·simp [cntP, e]
  ·simp [cntP, e]; split <;> decide
  ·simp [cntP, e]; split <;> decide
  ·have : 0 < y.syms.length := by
    unfold q25 typOk symsOk at hgk
    simp [e] at hgk
    exact hgk.1.2.1
   simp [cntP, e]
   omega
end Go.Proofs.YtdjomefkhdimaaaGreat
namespace Go.Proofs.YtdjomefkhdimaaaGreat
open Go
set_option maxRecDepth 10000
set_option maxHeartbeats 8000000
set_option linter.unusedSimpArgs false
def posV (w : Vec) (n : Nat) : List (List AV) := (List.range n).map fun j => [AV.bool (decide (0 < w j))]
theorem q74 (w : Vec) (n : Nat) : posV w (n + 1) = posV w n ++ [[AV.bool (decide (0 < w n))]] := by simp [posV, List.range_succ]
theorem posV_els (w : Vec) (n : Nat) : q0Y 1 (posV w n) = true := q1O _ _ _ fun _ => rfl
theorem q8y (w : Vec) (n : Nat) : (posV w n).length = n := by simp [posV]
theorem posV_get (w : Vec) {n i : Nat} (h : i < n) : (posV w n)[i]? = some [.bool (decide (0 < w i))] := by simp [posV, h]
noncomputable def finA (S : List Typ) (w : Vec) : AV := if q2L S = 0 then .tup [.sl (decide (S.length = 0)) (posV w S.length), .int .i64 0] else .tup [.sl true [], .int .i64 (q2L S)]
theorem q5L {S : List Typ} (h : q2L S = 0) : valid S = 0 := by
 unfold q2L at h
 by_cases h0 : valid S = 0
 ·exact h0
 ·rw [if_neg h0] at h; exact absurd h h0
theorem finite_ev (s : Sch) (hs : s.fine) (h64 : s.d64) {w : Vec} (hw : q2L s.types = 0 -> inR s.types.length w /\ evA 31 [.agg (schC s)] (.sl false (vecC s.types.length w))) : evA 11 [.agg (schC s)] (finA s.types w) := by
 have hr := right_ev s hs h64
 refine q00 (c := q2a) rfl rfl ?_
 unfold finA
 simp only [evA, schC] at hr hw
 by_cases h0 : q2L s.types = 0
 case neg =>
  rw [if_neg h0]
  simp [q2a, -Option.bind_some, -Int.toNat_lt, -List.map_map, List.range_succ, schC, hr, h0]
 have hN := q58 (q5L h0)
 obtain ⟨hrng, hc⟩ := hw h0
 rw [if_pos h0]
 rw [h0] at hr
 simp only [schC]
 generalize s.types = S at *
 generalize s.nl = b at *
 obtain ⟨N, hNN⟩ : ∃ N, N = S.length := ⟨_, rfl⟩
 rw [<- hNN] at hN hrng hc ⊢
 have hvl := q8D N w
 simp [q2a, -Option.bind_some, -Int.toNat_lt, -List.map_map, List.range_succ, schC, hr, hc, hvl]
 refine q0h N (fun i σ => (σ.env 14).v = .sl false (vecC N w) /\ (σ.env 15).v = .int .i64 N /\ (σ.env 16).v = .int .i64 i /\ (σ.env 5).v = .sl (decide (i = 0)) (posV w i) /\ (i = 0 /\ (σ.env 5).a = .ex \/ ¬ i = 0 /\ (σ.env 5).a = .own 24 4))
  (fun e σ => e = .exit 0 /\ (σ.env 5).v = .sl (decide (N = 0)) (posV w N)) (fun i hi σ k h ih hk => ?_) _ _ ?_ (fun e σ h => ?_)
 ·obtain ⟨e14, e15, e16, e5, an⟩ := h
  refine q05 ?_
  by_cases hlt : i < N
  ·have hlt' : (i : Int) < N := by omega
   have g1 : (vecC N w)[i]? = some [.int .i64 (w i)] := by have := q23 w (t := (i : Int)) (N := N) (by omega); simpa using this
   have hwi := q1d (i := i) (by omega)
   have q := posV_els w i
   have ql := q8y w i
   have hroom : q1D 1 (i + 1) = true := by rw [q0q]; omega
   rcases an with ⟨a0, a5⟩ | ⟨a0, a5⟩
   ·simp [q21, -Option.bind_some, -Int.toNat_lt, -List.map_map, List.range_succ, e14, e15, e16, e5, a5, hlt', g1, q, ql, hwi, hroom]
    refine ih hlt _ ⟨?_, ?_, ?_, ?_, ?_⟩ <;> simp [e14, e15, q74, An.strip]
   ·simp [q21, -Option.bind_some, -Int.toNat_lt, -List.map_map, List.range_succ, e14, e15, e16, e5, a0, a5, hlt', g1, q, ql, hwi, hroom]
    refine ih hlt _ ⟨?_, ?_, ?_, ?_, ?_⟩ <;> simp [e14, e15, q74, An.strip]
  ·have hlt' : ¬ (i : Int) < N := by omega
   have hiN : i = N := by omega
   simp [q21, -Option.bind_some, -Int.toNat_lt, -List.map_map, List.range_succ, e15, e16, hlt']
   exact hk _ _ ⟨rfl, by rw [<- hiN]; simp [e5]⟩
 ·simp [posV]
 ·obtain ⟨rfl, e5⟩ := h
  simp [-Option.bind_some, -Int.toNat_lt, -List.map_map, List.range_succ, e5]
theorem rfinite_ev (s : Sch) (hs : s.fine) (h64 : s.d64) {w : Vec} (hw : q2L s.types = 0 -> inR s.types.length w /\ evA 32 [.agg (schC s)] (.sl false (vecC s.types.length w))) : evA 12 [.agg (schC s)] (finA s.types w) := by
 have hr := rerror_ev s hs h64
 refine q00 (c := q2G) rfl rfl ?_
 unfold finA
 simp only [evA, schC] at hr hw
 by_cases h0 : q2L s.types = 0
 case neg =>
  rw [if_neg h0]
  simp [q2G, -Option.bind_some, -Int.toNat_lt, -List.map_map, List.range_succ, schC, hr, h0]
 have hN := q58 (q5L h0)
 obtain ⟨hrng, hc⟩ := hw h0
 rw [if_pos h0]
 rw [h0] at hr
 simp only [schC]
 generalize s.types = S at *
 generalize s.nl = b at *
 obtain ⟨N, hNN⟩ : ∃ N, N = S.length := ⟨_, rfl⟩
 rw [<- hNN] at hN hrng hc ⊢
 have hvl := q8D N w
 simp [q2G, -Option.bind_some, -Int.toNat_lt, -List.map_map, List.range_succ, schC, hr, hc]
 refine q0h N (fun i σ => (σ.env 5).v = .sl false (vecC N w) /\ (σ.env 7).v = .int .i64 i /\ (σ.env 6).v = .sl (decide (i = 0)) (posV w i) /\ (i = 0 /\ (σ.env 6).a = .ex \/ ¬ i = 0 /\ (σ.env 6).a = .own 28 4))
  (fun e σ => e = .exit 0 /\ (σ.env 6).v = .sl (decide (N = 0)) (posV w N)) (fun i hi σ k h ih hk => ?_) _ _ ?_ (fun e σ h => ?_)
 ·obtain ⟨e5, e7, e6, an⟩ := h
  refine q05 ?_
  by_cases hlt : i < N
  ·have hlt' : (i : Int) < N := by omega
   have g1 : (vecC N w)[i]? = some [.int .i64 (w i)] := by have := q23 w (t := (i : Int)) (N := N) (by omega); simpa using this
   have hwi := q1d (i := i) (by omega)
   have q := posV_els w i
   have ql := q8y w i
   have hroom : q1D 1 (i + 1) = true := by rw [q0q]; omega
   rcases an with ⟨a0, a5⟩ | ⟨a0, a5⟩
   ·simp [q2y, -Option.bind_some, -Int.toNat_lt, -List.map_map, List.range_succ, e5, e7, e6, a5, hlt', hvl, g1, q, ql, hwi, hroom]
    refine ih hlt _ ⟨?_, ?_, ?_, ?_⟩ <;> simp [e5, q74, An.strip]
   ·simp [q2y, -Option.bind_some, -Int.toNat_lt, -List.map_map, List.range_succ, e5, e7, e6, a0, a5, hlt', hvl, g1, q, ql, hwi, hroom]
    refine ih hlt _ ⟨?_, ?_, ?_, ?_⟩ <;> simp [e5, q74, An.strip]
  ·have hlt' : ¬ (i : Int) < N := by omega
   have hiN : i = N := by omega
   simp [q2y, -Option.bind_some, -Int.toNat_lt, -List.map_map, List.range_succ, e5, e7, hvl, hlt']
   exact hk _ _ ⟨rfl, by rw [<- hiN]; simp [e6]⟩
 ·simp [posV]
 ·obtain ⟨rfl, e5⟩ := h
  simp [-Option.bind_some, -Int.toNat_lt, -List.map_map, List.range_succ, e5]
def q4D (w : Vec) : Nat -> Bool
 | 0 => true
 | n + 1 => q4D w n && decide (0 < w n)
theorem allPos_f {w : Vec} : ∀ {n : Nat} (i : Nat), i < n -> ¬ 0 < w i -> q4D w n = false
 | 0, i, h, _ => by omega
 | n + 1, i, h, hn => by
  unfold q4D
  by_cases e : i = n
  ·subst e; simp [hn]
  ·rw [allPos_f i (by omega) hn]; rfl
noncomputable def soundE (S : List Typ) (w : Vec) : Int := if q2L S = 0 then (if q4D w S.length = true then 0 else 10) else q2L S
theorem sound_ev (s : Sch) (hs : s.fine) (h64 : s.d64) {w : Vec} (hw : q2L s.types = 0 -> inR s.types.length w /\ evA 31 [.agg (schC s)] (.sl false (vecC s.types.length w))) : evA 21 [.agg (schC s)] (.int .i64 (soundE s.types w)) := by
 have hf := finite_ev s hs h64 hw
 refine q00 (c := q2o) rfl rfl ?_
 unfold finA at hf
 unfold soundE
 simp only [evA, schC] at hf
 by_cases h0 : q2L s.types = 0
 case neg =>
  rw [if_neg h0] at hf ⊢
  simp [q2o, -Option.bind_some, -Int.toNat_lt, -List.map_map, List.range_succ, schC, hf, h0]
 have hN := q58 (q5L h0)
 clear hw
 rw [if_pos h0] at hf ⊢
 simp only [schC]
 generalize s.types = S at *
 generalize s.nl = b at *
 obtain ⟨N, hNN⟩ : ∃ N, N = S.length := ⟨_, rfl⟩
 rw [<- hNN] at hN hf ⊢
 have hvl := q8y w N
 simp [q2o, -Option.bind_some, -Int.toNat_lt, -List.map_map, List.range_succ, schC, hf, hvl]
 refine q0h N (fun i σ => (σ.env 15).v = .sl (decide (N = 0)) (posV w N) /\ (σ.env 16).v = .int .i64 N /\ (σ.env 17).v = .int .i64 i /\ q4D w i = true)
  (fun e σ => (e = .exit 0 /\ q4D w N = true) \/ (e = .ret /\ q4D w N = false /\ (σ.env 2).v = .int .i64 10)) (fun i hi σ k h ih hk => ?_) _ _ ?_ (fun e σ h => ?_)
 ·obtain ⟨e15, e16, e17, hp⟩ := h
  refine q05 ?_
  by_cases hlt : i < N
  ·have hlt' : (i : Int) < N := by omega
   have g1 := posV_get w hlt
   have hwi := q1d (i := i) (by omega)
   by_cases hpos : 0 < w i
   ·rw [decide_eq_true hpos] at g1
    simp [q2m, -Option.bind_some, -Int.toNat_lt, -List.map_map, List.range_succ, e15, e16, e17, hlt', g1, hwi]
    refine ih hlt _ ⟨?_, ?_, ?_, by rw [q4D, hp, decide_eq_true hpos]; rfl⟩ <;> simp [e15, e16]
   ·rw [decide_eq_false hpos] at g1
    simp [q2m, -Option.bind_some, -Int.toNat_lt, -List.map_map, List.range_succ, e15, e16, e17, hlt', g1]
    exact hk _ _ (.inr ⟨rfl, allPos_f i hlt hpos, by simp⟩)
  ·have hlt' : ¬ (i : Int) < N := by omega
   have hiN : i = N := by omega
   simp [q2m, -Option.bind_some, -Int.toNat_lt, -List.map_map, List.range_succ, e16, e17, hlt']
   exact hk _ _ (.inl ⟨rfl, hiN ▸ hp⟩)
 ·simp [q4D]
 ·rcases h with ⟨rfl, h1⟩ | ⟨rfl, h1, h2⟩
  ·simp [-Option.bind_some, -Int.toNat_lt, -List.map_map, List.range_succ, h1]
  ·simp [-Option.bind_some, -Int.toNat_lt, -List.map_map, List.range_succ, h1, h2]
theorem rsound_ev (s : Sch) (hs : s.fine) (h64 : s.d64) {w : Vec} (hw : q2L s.types = 0 -> inR s.types.length w /\ evA 32 [.agg (schC s)] (.sl false (vecC s.types.length w))) : evA 22 [.agg (schC s)] (.int .i64 (soundE s.types w)) := by
 have hf := rfinite_ev s hs h64 hw
 refine q00 (c := q3l) rfl rfl ?_
 unfold finA at hf
 unfold soundE
 simp only [evA, schC] at hf
 by_cases h0 : q2L s.types = 0
 case neg =>
  rw [if_neg h0] at hf ⊢
  simp [q3l, -Option.bind_some, -Int.toNat_lt, -List.map_map, List.range_succ, schC, hf, h0]
 have hN := q58 (q5L h0)
 clear hw
 rw [if_pos h0] at hf ⊢
 simp only [schC]
 generalize s.types = S at *
 generalize s.nl = b at *
 obtain ⟨N, hNN⟩ : ∃ N, N = S.length := ⟨_, rfl⟩
 rw [<- hNN] at hN hf ⊢
 have hvl := q8y w N
 simp [q3l, -Option.bind_some, -Int.toNat_lt, -List.map_map, List.range_succ, schC, hf]
 refine q0h N (fun i σ => (σ.env 3).v = .sl (decide (N = 0)) (posV w N) /\ (σ.env 5).v = .int .i64 i /\ q4D w i = true)
  (fun e σ => (e = .exit 0 /\ q4D w N = true) \/ (e = .ret /\ q4D w N = false /\ (σ.env 2).v = .int .i64 10)) (fun i hi σ k h ih hk => ?_) _ _ ?_ (fun e σ h => ?_)
 ·obtain ⟨e3, e5, hp⟩ := h
  refine q05 ?_
  by_cases hlt : i < N
  ·have hlt' : (i : Int) < N := by omega
   have g1 := posV_get w hlt
   have hwi := q1d (i := i) (by omega)
   by_cases hpos : 0 < w i
   ·rw [decide_eq_true hpos] at g1
    simp [q2U, -Option.bind_some, -Int.toNat_lt, -List.map_map, List.range_succ, e3, e5, hlt', hvl, g1, hwi]
    refine ih hlt _ ⟨?_, ?_, by rw [q4D, hp, decide_eq_true hpos]; rfl⟩ <;> simp [e3]
   ·rw [decide_eq_false hpos] at g1
    simp [q2U, -Option.bind_some, -Int.toNat_lt, -List.map_map, List.range_succ, e3, e5, hlt', hvl, g1]
    exact hk _ _ (.inr ⟨rfl, allPos_f i hlt hpos, by simp⟩)
  ·have hlt' : ¬ (i : Int) < N := by omega
   have hiN : i = N := by omega
   simp [q2U, -Option.bind_some, -Int.toNat_lt, -List.map_map, List.range_succ, e3, e5, hvl, hlt']
   exact hk _ _ (.inl ⟨rfl, hiN ▸ hp⟩)
 ·simp [q4D]
 ·rcases h with ⟨rfl, h1⟩ | ⟨rfl, h1, h2⟩
  ·simp [-Option.bind_some, -Int.toNat_lt, -List.map_map, List.range_succ, h1]
  ·simp [-Option.bind_some, -Int.toNat_lt, -List.map_map, List.range_succ, h1, h2]
theorem both_sound (s : Sch) (hs : s.fine) (h64 : s.d64) : ∃ e : Int, evA 21 [.agg (schC s)] (.int .i64 e) /\ evA 22 [.agg (schC s)] (.int .i64 e) := by
 by_cases h0 : q2L s.types = 0
 ·obtain ⟨w, hr, h1, h2⟩ := both_counts s (q5L h0)
  exact ⟨_, sound_ev s hs h64 (fun _ => ⟨hr, h1⟩), rsound_ev s hs h64 (fun _ => ⟨hr, h2⟩)⟩
 ·exact ⟨soundE s.types (fun _ => 0), sound_ev s hs h64 (fun h => absurd h h0), rsound_ev s hs h64 (fun h => absurd h h0)⟩
end Go.Proofs.YtdjomefkhdimaaaGreat
namespace Go.Proofs.YtdjomefkhdimaaaGreat
open Go
set_option maxRecDepth 100000
abbrev i6 (n : Int) : AV := .int .i64 n
abbrev f6 : AV := .bool false
abbrev t6 : AV := .bool true
abbrev n6 : AV := .sl true []
abbrev e6 : AV := .str ⟨#[]⟩
def exA0 : AV := (.sl false [[(i6 5),(.str (.mk #[65])),(i6 0),(i6 0),(i6 0),n6,(.sl false [[(i6 1),(.str (.mk #[97])),(i6 0),f6,f6,(i6 0),f6,(i6 0),e6,(i6 0),n6,n6,n6]]),(i6 0),(i6 0),f6],[(i6 7),e6,(i6 0),(i6 0),(i6 3),n6,n6,(i6 0),(i6 2),f6],[(i6 5),(.str (.mk #[66])),(i6 0),(i6 0),(i6 0),n6,(.sl false [[(i6 1),(.str (.mk #[98])),(i6 1),f6,f6,(i6 0),f6,(i6 0),e6,(i6 0),n6,n6,n6]]),(i6 0),(i6 0),f6],[(i6 2),e6,(i6 7),(i6 7),(i6 0),n6,n6,(i6 0),(i6 0),f6],[(i6 6),(.str (.mk #[85])),(i6 0),(i6 0),(i6 0),n6,(.sl false [[(i6 1),(.str (.mk #[120])),(i6 0),f6,f6,(i6 0),f6,(i6 0),e6,(i6 0),n6,n6,n6],[(i6 2),(.str (.mk #[121])),(i6 3),f6,f6,(i6 0),f6,(i6 0),e6,(i6 0),n6,n6,n6]]),(i6 0),(i6 0),f6]])
def exA : AV := (.agg [exA0])
def awk_M0 : List ME := []
theorem awk_k0 : q0g allT q02 awk_M0 := q0g.nil
def awk_M1 : List ME := ⟨27,[],none,(exA,none)⟩ :: awk_M0
theorem awk_k1 : q0g allT q02 awk_M1 := awk_k0.more 3000 _ (by kernel_rfl)
def awk_M2 : List ME := ⟨44,[exA],none,((i6 0),none)⟩ :: awk_M1
theorem awk_k2 : q0g allT q02 awk_M2 := awk_k1.more 3000 _ (by kernel_rfl)
def awk_M3 : List ME := ⟨45,[exA],none,((.tup [(i6 0),(i6 0),(i6 0)]),none)⟩ :: awk_M2
theorem awk_k3 : q0g allT q02 awk_M3 := awk_k2.more 3000 _ (by kernel_rfl)
def awk_M4 : List ME := ⟨30,[exA],none,((i6 0),none)⟩ :: awk_M3
theorem awk_k4 : q0g allT q02 awk_M4 := awk_k3.more 3000 _ (by kernel_rfl)
def awk_M5 : List ME := ⟨46,[(.agg [(i6 5),(.str (.mk #[65])),(i6 0),(i6 0),(i6 0),n6,(.sl false [[(i6 1),(.str (.mk #[97])),(i6 0),f6,f6,(i6 0),f6,(i6 0),e6,(i6 0),n6,n6,n6]]),(i6 0),(i6 0),f6]),(.bl [[(i6 0)],[(i6 0)],[(i6 0)],[(i6 0)],[(i6 0)]])],none,((i6 0),none)⟩ :: awk_M4
theorem awk_k5 : q0g allT q02 awk_M5 := awk_k4.more 3000 _ (by kernel_rfl)
def awk_M6 : List ME := ⟨46,[(.agg [(i6 7),e6,(i6 0),(i6 0),(i6 3),n6,n6,(i6 0),(i6 2),f6]),(.bl [[(i6 0)],[(i6 0)],[(i6 0)],[(i6 0)],[(i6 0)]])],none,((i6 1),none)⟩ :: awk_M5
theorem awk_k6 : q0g allT q02 awk_M6 := awk_k5.more 3000 _ (by kernel_rfl)
def awk_M7 : List ME := ⟨46,[(.agg [(i6 5),(.str (.mk #[66])),(i6 0),(i6 0),(i6 0),n6,(.sl false [[(i6 1),(.str (.mk #[98])),(i6 1),f6,f6,(i6 0),f6,(i6 0),e6,(i6 0),n6,n6,n6]]),(i6 0),(i6 0),f6]),(.bl [[(i6 0)],[(i6 1)],[(i6 0)],[(i6 0)],[(i6 0)]])],none,((i6 1),none)⟩ :: awk_M6
theorem awk_k7 : q0g allT q02 awk_M7 := awk_k6.more 3000 _ (by kernel_rfl)
def awk_M8 : List ME := ⟨46,[(.agg [(i6 2),e6,(i6 7),(i6 7),(i6 0),n6,n6,(i6 0),(i6 0),f6]),(.bl [[(i6 0)],[(i6 1)],[(i6 1)],[(i6 0)],[(i6 0)]])],none,((i6 1),none)⟩ :: awk_M7
theorem awk_k8 : q0g allT q02 awk_M8 := awk_k7.more 3000 _ (by kernel_rfl)
def awk_M9 : List ME := ⟨46,[(.agg [(i6 6),(.str (.mk #[85])),(i6 0),(i6 0),(i6 0),n6,(.sl false [[(i6 1),(.str (.mk #[120])),(i6 0),f6,f6,(i6 0),f6,(i6 0),e6,(i6 0),n6,n6,n6],[(i6 2),(.str (.mk #[121])),(i6 3),f6,f6,(i6 0),f6,(i6 0),e6,(i6 0),n6,n6,n6]]),(i6 0),(i6 0),f6]),(.bl [[(i6 0)],[(i6 1)],[(i6 1)],[(i6 1)],[(i6 0)]])],none,((i6 1),none)⟩ :: awk_M8
theorem awk_k9 : q0g allT q02 awk_M9 := awk_k8.more 3000 _ (by kernel_rfl)
def awk_M10 : List ME := ⟨46,[(.agg [(i6 5),(.str (.mk #[65])),(i6 0),(i6 0),(i6 0),n6,(.sl false [[(i6 1),(.str (.mk #[97])),(i6 0),f6,f6,(i6 0),f6,(i6 0),e6,(i6 0),n6,n6,n6]]),(i6 0),(i6 0),f6]),(.bl [[(i6 0)],[(i6 1)],[(i6 1)],[(i6 1)],[(i6 1)]])],none,((i6 0),none)⟩ :: awk_M9
theorem awk_k10 : q0g allT q02 awk_M10 := awk_k9.more 3000 _ (by kernel_rfl)
def awk_M11 : List ME := ⟨46,[(.agg [(i6 7),e6,(i6 0),(i6 0),(i6 3),n6,n6,(i6 0),(i6 2),f6]),(.bl [[(i6 0)],[(i6 1)],[(i6 1)],[(i6 1)],[(i6 1)]])],none,((i6 2),none)⟩ :: awk_M10
theorem awk_k11 : q0g allT q02 awk_M11 := awk_k10.more 3000 _ (by kernel_rfl)
def awk_M12 : List ME := ⟨46,[(.agg [(i6 5),(.str (.mk #[66])),(i6 0),(i6 0),(i6 0),n6,(.sl false [[(i6 1),(.str (.mk #[98])),(i6 1),f6,f6,(i6 0),f6,(i6 0),e6,(i6 0),n6,n6,n6]]),(i6 0),(i6 0),f6]),(.bl [[(i6 0)],[(i6 2)],[(i6 1)],[(i6 1)],[(i6 1)]])],none,((i6 2),none)⟩ :: awk_M11
theorem awk_k12 : q0g allT q02 awk_M12 := awk_k11.more 3000 _ (by kernel_rfl)
def awk_M13 : List ME := ⟨46,[(.agg [(i6 2),e6,(i6 7),(i6 7),(i6 0),n6,n6,(i6 0),(i6 0),f6]),(.bl [[(i6 0)],[(i6 2)],[(i6 2)],[(i6 1)],[(i6 1)]])],none,((i6 1),none)⟩ :: awk_M12
theorem awk_k13 : q0g allT q02 awk_M13 := awk_k12.more 3000 _ (by kernel_rfl)
def awk_M14 : List ME := ⟨46,[(.agg [(i6 6),(.str (.mk #[85])),(i6 0),(i6 0),(i6 0),n6,(.sl false [[(i6 1),(.str (.mk #[120])),(i6 0),f6,f6,(i6 0),f6,(i6 0),e6,(i6 0),n6,n6,n6],[(i6 2),(.str (.mk #[121])),(i6 3),f6,f6,(i6 0),f6,(i6 0),e6,(i6 0),n6,n6,n6]]),(i6 0),(i6 0),f6]),(.bl [[(i6 0)],[(i6 2)],[(i6 2)],[(i6 1)],[(i6 1)]])],none,((i6 1),none)⟩ :: awk_M13
theorem awk_k14 : q0g allT q02 awk_M14 := awk_k13.more 3000 _ (by kernel_rfl)
def awk_M15 : List ME := ⟨46,[(.agg [(i6 5),(.str (.mk #[65])),(i6 0),(i6 0),(i6 0),n6,(.sl false [[(i6 1),(.str (.mk #[97])),(i6 0),f6,f6,(i6 0),f6,(i6 0),e6,(i6 0),n6,n6,n6]]),(i6 0),(i6 0),f6]),(.bl [[(i6 0)],[(i6 2)],[(i6 2)],[(i6 1)],[(i6 1)]])],none,((i6 0),none)⟩ :: awk_M14
theorem awk_k15 : q0g allT q02 awk_M15 := awk_k14.more 3000 _ (by kernel_rfl)
def awk_M16 : List ME := ⟨46,[(.agg [(i6 7),e6,(i6 0),(i6 0),(i6 3),n6,n6,(i6 0),(i6 2),f6]),(.bl [[(i6 0)],[(i6 2)],[(i6 2)],[(i6 1)],[(i6 1)]])],none,((i6 2),none)⟩ :: awk_M15
theorem awk_k16 : q0g allT q02 awk_M16 := awk_k15.more 3000 _ (by kernel_rfl)
def awk_M17 : List ME := ⟨46,[(.agg [(i6 5),(.str (.mk #[66])),(i6 0),(i6 0),(i6 0),n6,(.sl false [[(i6 1),(.str (.mk #[98])),(i6 1),f6,f6,(i6 0),f6,(i6 0),e6,(i6 0),n6,n6,n6]]),(i6 0),(i6 0),f6]),(.bl [[(i6 0)],[(i6 2)],[(i6 2)],[(i6 1)],[(i6 1)]])],none,((i6 2),none)⟩ :: awk_M16
theorem awk_k17 : q0g allT q02 awk_M17 := awk_k16.more 3000 _ (by kernel_rfl)
def awk_M18 : List ME := ⟨31,[exA],none,((.sl false [[(i6 0)],[(i6 2)],[(i6 2)],[(i6 1)],[(i6 1)]]),none)⟩ :: awk_M17
theorem awk_k18 : q0g allT q02 awk_M18 := awk_k17.more 3000 _ (by kernel_rfl)
def awk_M19 : List ME := ⟨11,[exA],none,((.tup [(.sl false [[f6],[t6],[t6],[t6],[t6]]),(i6 0)]),none)⟩ :: awk_M18
theorem awk_k19 : q0g allT q02 awk_M19 := awk_k18.more 3000 _ (by kernel_rfl)
def awk_M20 : List ME := ⟨33,[exA,(i6 2)],none,((i6 0),none)⟩ :: awk_M19
theorem awk_k20 : q0g allT q02 awk_M20 := awk_k19.more 3000 _ (by kernel_rfl)
def awk_M21 : List ME := ⟨48,[exA,(i6 0),(.agg [(i6 5),(.str (.mk #[65])),(i6 0),(i6 0),(i6 0),n6,(.sl false [[(i6 1),(.str (.mk #[97])),(i6 0),f6,f6,(i6 0),f6,(i6 0),e6,(i6 0),n6,n6,n6]]),(i6 0),(i6 0),f6]),(.bl [[f6,f6,e6,(i6 0),f6,(i6 0),e6,(i6 0),n6,n6,n6],[f6,f6,e6,(i6 0),f6,(i6 0),e6,(i6 0),n6,n6,n6],[f6,f6,e6,(i6 0),f6,(i6 0),e6,(i6 0),n6,n6,n6],[f6,f6,e6,(i6 0),f6,(i6 0),e6,(i6 0),n6,n6,n6],[f6,f6,e6,(i6 0),f6,(i6 0),e6,(i6 0),n6,n6,n6]])],none,((.agg [f6,f6,e6,(i6 0),f6,(i6 0),e6,(i6 0),n6,n6,n6]),none)⟩ :: awk_M20
theorem awk_k21 : q0g allT q02 awk_M21 := awk_k20.more 3000 _ (by kernel_rfl)
def awk_M22 : List ME := ⟨49,[(.agg [f6,f6,e6,(i6 0),f6,(i6 0),e6,(i6 0),n6,n6,n6]),(.agg [f6,f6,e6,(i6 0),f6,(i6 0),e6,(i6 0),n6,n6,n6])],none,(f6,none)⟩ :: awk_M21
theorem awk_k22 : q0g allT q02 awk_M22 := awk_k21.more 3000 _ (by kernel_rfl)
def awk_M23 : List ME := ⟨82,[exA,(i6 1),(.agg [(i6 7),f6,(i6 0),e6,(i6 0),n6,n6,n6]),f6],none,(t6,none)⟩ :: awk_M22
theorem awk_k23 : q0g allT q02 awk_M23 := awk_k22.more 3000 _ (by kernel_rfl)
def awk_M24 : List ME := ⟨115,[exA,(i6 1),(.agg [(i6 7),f6,(i6 0),e6,(i6 0),n6,n6,n6])],none,((i6 0),none)⟩ :: awk_M23
theorem awk_k24 : q0g allT q02 awk_M24 := awk_k23.more 3000 _ (by kernel_rfl)
def awk_M25 : List ME := ⟨116,[.undef,.undef,(.ptr 0 0 0),(i6 1),(.agg [(i6 7),f6,(i6 0),e6,(i6 0),n6,n6,n6]),(i6 1)],(some (.agg [exA0,(i6 0)])),(e6,(some (.agg [exA0,(i6 1)])))⟩ :: awk_M24
theorem awk_k25 : q0g allT q02 awk_M25 := awk_k24.more 3000 _ (by kernel_rfl)
def awk_M26 : List ME := ⟨83,[exA,(i6 1),(.agg [(i6 7),f6,(i6 0),e6,(i6 0),n6,n6,n6])],none,((.tup [(i6 0),(i6 0)]),none)⟩ :: awk_M25
theorem awk_k26 : q0g allT q02 awk_M26 := awk_k25.more 3000 _ (by kernel_rfl)
def awk_M27 : List ME := ⟨117,[exA,(i6 1),(.agg [(i6 7),f6,(i6 0),e6,(i6 0),n6,n6,n6])],none,((.tup [e6,(i6 0)]),none)⟩ :: awk_M26
theorem awk_k27 : q0g allT q02 awk_M27 := awk_k26.more 3000 _ (by kernel_rfl)
def awk_M28 : List ME := ⟨84,[exA,(i6 1),(.agg [(i6 7),f6,(i6 0),e6,(i6 0),n6,n6,n6])],none,(e6,none)⟩ :: awk_M27
theorem awk_k28 : q0g allT q02 awk_M28 := awk_k27.more 3000 _ (by kernel_rfl)
def awk_M29 : List ME := ⟨67,[exA,(i6 1),(.agg [(i6 7),f6,(i6 0),e6,(i6 0),n6,n6,n6])],none,((.agg [t6,f6,e6,(i6 7),f6,(i6 0),e6,(i6 0),n6,n6,n6]),none)⟩ :: awk_M28
theorem awk_k29 : q0g allT q02 awk_M29 := awk_k28.more 3000 _ (by kernel_rfl)
def awk_M30 : List ME := ⟨48,[exA,(i6 1),(.agg [(i6 7),e6,(i6 0),(i6 0),(i6 3),n6,n6,(i6 0),(i6 2),f6]),(.bl [[f6,f6,e6,(i6 0),f6,(i6 0),e6,(i6 0),n6,n6,n6],[f6,f6,e6,(i6 0),f6,(i6 0),e6,(i6 0),n6,n6,n6],[f6,f6,e6,(i6 0),f6,(i6 0),e6,(i6 0),n6,n6,n6],[f6,f6,e6,(i6 0),f6,(i6 0),e6,(i6 0),n6,n6,n6],[f6,f6,e6,(i6 0),f6,(i6 0),e6,(i6 0),n6,n6,n6]])],none,((.agg [t6,f6,e6,(i6 7),f6,(i6 0),e6,(i6 0),n6,n6,n6]),none)⟩ :: awk_M29
theorem awk_k30 : q0g allT q02 awk_M30 := awk_k29.more 3000 _ (by kernel_rfl)
def awk_M31 : List ME := ⟨49,[(.agg [t6,f6,e6,(i6 7),f6,(i6 0),e6,(i6 0),n6,n6,n6]),(.agg [f6,f6,e6,(i6 0),f6,(i6 0),e6,(i6 0),n6,n6,n6])],none,(t6,none)⟩ :: awk_M30
theorem awk_k31 : q0g allT q02 awk_M31 := awk_k30.more 3000 _ (by kernel_rfl)
def awk_M32 : List ME := ⟨82,[exA,(i6 2),(.agg [(i6 5),f6,(i6 0),e6,(i6 0),n6,(.sl false [[(i6 7),f6,(i6 0),e6,(i6 0),n6,n6,n6]]),n6]),f6],none,(t6,none)⟩ :: awk_M31
theorem awk_k32 : q0g allT q02 awk_M32 := awk_k31.more 3000 _ (by kernel_rfl)
def awk_M33 : List ME := ⟨115,[exA,(i6 2),(.agg [(i6 5),f6,(i6 0),e6,(i6 0),n6,(.sl false [[(i6 7),f6,(i6 0),e6,(i6 0),n6,n6,n6]]),n6])],none,((i6 0),none)⟩ :: awk_M32
theorem awk_k33 : q0g allT q02 awk_M33 := awk_k32.more 3000 _ (by kernel_rfl)
def awk_M34 : List ME := ⟨116,[.undef,.undef,(.ptr 0 0 0),(i6 1),(.agg [(i6 7),f6,(i6 0),e6,(i6 0),n6,n6,n6]),(i6 2)],(some (.agg [exA0,(i6 1)])),(e6,(some (.agg [exA0,(i6 2)])))⟩ :: awk_M33
theorem awk_k34 : q0g allT q02 awk_M34 := awk_k33.more 3000 _ (by kernel_rfl)
def awk_M35 : List ME := ⟨116,[.undef,.undef,(.ptr 0 0 0),(i6 2),(.agg [(i6 5),f6,(i6 0),e6,(i6 0),n6,(.sl false [[(i6 7),f6,(i6 0),e6,(i6 0),n6,n6,n6]]),n6]),(i6 1)],(some (.agg [exA0,(i6 0)])),((.str (.mk #[2,0])),(some (.agg [exA0,(i6 2)])))⟩ :: awk_M34
theorem awk_k35 : q0g allT q02 awk_M35 := awk_k34.more 3000 _ (by kernel_rfl)
def awk_M36 : List ME := ⟨83,[exA,(i6 2),(.agg [(i6 5),f6,(i6 0),e6,(i6 0),n6,(.sl false [[(i6 7),f6,(i6 0),e6,(i6 0),n6,n6,n6]]),n6])],none,((.tup [(i6 2),(i6 0)]),none)⟩ :: awk_M35
theorem awk_k36 : q0g allT q02 awk_M36 := awk_k35.more 3000 _ (by kernel_rfl)
def awk_M37 : List ME := ⟨117,[exA,(i6 2),(.agg [(i6 5),f6,(i6 0),e6,(i6 0),n6,(.sl false [[(i6 7),f6,(i6 0),e6,(i6 0),n6,n6,n6]]),n6])],none,((.tup [(.str (.mk #[2,0])),(i6 0)]),none)⟩ :: awk_M36
theorem awk_k37 : q0g allT q02 awk_M37 := awk_k36.more 3000 _ (by kernel_rfl)
def awk_M38 : List ME := ⟨84,[exA,(i6 2),(.agg [(i6 5),f6,(i6 0),e6,(i6 0),n6,(.sl false [[(i6 7),f6,(i6 0),e6,(i6 0),n6,n6,n6]]),n6])],none,((.str (.mk #[2,0])),none)⟩ :: awk_M37
theorem awk_k38 : q0g allT q02 awk_M38 := awk_k37.more 3000 _ (by kernel_rfl)
def awk_M39 : List ME := ⟨67,[exA,(i6 2),(.agg [(i6 5),f6,(i6 0),e6,(i6 0),n6,(.sl false [[(i6 7),f6,(i6 0),e6,(i6 0),n6,n6,n6]]),n6])],none,((.agg [t6,f6,(.str (.mk #[2,0])),(i6 5),f6,(i6 0),e6,(i6 0),n6,(.sl false [[(i6 7),f6,(i6 0),e6,(i6 0),n6,n6,n6]]),n6]),none)⟩ :: awk_M38
theorem awk_k39 : q0g allT q02 awk_M39 := awk_k38.more 3000 _ (by kernel_rfl)
def awk_M40 : List ME := ⟨48,[exA,(i6 2),(.agg [(i6 5),(.str (.mk #[66])),(i6 0),(i6 0),(i6 0),n6,(.sl false [[(i6 1),(.str (.mk #[98])),(i6 1),f6,f6,(i6 0),f6,(i6 0),e6,(i6 0),n6,n6,n6]]),(i6 0),(i6 0),f6]),(.bl [[f6,f6,e6,(i6 0),f6,(i6 0),e6,(i6 0),n6,n6,n6],[t6,f6,e6,(i6 7),f6,(i6 0),e6,(i6 0),n6,n6,n6],[f6,f6,e6,(i6 0),f6,(i6 0),e6,(i6 0),n6,n6,n6],[f6,f6,e6,(i6 0),f6,(i6 0),e6,(i6 0),n6,n6,n6],[f6,f6,e6,(i6 0),f6,(i6 0),e6,(i6 0),n6,n6,n6]])],none,((.agg [t6,f6,(.str (.mk #[2,0])),(i6 5),f6,(i6 0),e6,(i6 0),n6,(.sl false [[(i6 7),f6,(i6 0),e6,(i6 0),n6,n6,n6]]),n6]),none)⟩ :: awk_M39
theorem awk_k40 : q0g allT q02 awk_M40 := awk_k39.more 3000 _ (by kernel_rfl)
def awk_M41 : List ME := ⟨49,[(.agg [t6,f6,(.str (.mk #[2,0])),(i6 5),f6,(i6 0),e6,(i6 0),n6,(.sl false [[(i6 7),f6,(i6 0),e6,(i6 0),n6,n6,n6]]),n6]),(.agg [f6,f6,e6,(i6 0),f6,(i6 0),e6,(i6 0),n6,n6,n6])],none,(t6,none)⟩ :: awk_M40
theorem awk_k41 : q0g allT q02 awk_M41 := awk_k40.more 3000 _ (by kernel_rfl)
def awk_M42 : List ME := ⟨82,[exA,(i6 3),(.agg [(i6 2),f6,(i6 7),e6,(i6 0),n6,n6,n6]),f6],none,(t6,none)⟩ :: awk_M41
theorem awk_k42 : q0g allT q02 awk_M42 := awk_k41.more 3000 _ (by kernel_rfl)
def awk_M43 : List ME := ⟨115,[exA,(i6 3),(.agg [(i6 2),f6,(i6 7),e6,(i6 0),n6,n6,n6])],none,((i6 0),none)⟩ :: awk_M42
theorem awk_k43 : q0g allT q02 awk_M43 := awk_k42.more 3000 _ (by kernel_rfl)
def awk_M44 : List ME := ⟨116,[.undef,.undef,(.ptr 0 0 0),(i6 3),(.agg [(i6 2),f6,(i6 7),e6,(i6 0),n6,n6,n6]),(i6 1)],(some (.agg [exA0,(i6 0)])),((.str (.mk #[14])),(some (.agg [exA0,(i6 1)])))⟩ :: awk_M43
theorem awk_k44 : q0g allT q02 awk_M44 := awk_k43.more 3000 _ (by kernel_rfl)
def awk_M45 : List ME := ⟨83,[exA,(i6 3),(.agg [(i6 2),f6,(i6 7),e6,(i6 0),n6,n6,n6])],none,((.tup [(i6 1),(i6 0)]),none)⟩ :: awk_M44
theorem awk_k45 : q0g allT q02 awk_M45 := awk_k44.more 3000 _ (by kernel_rfl)
def awk_M46 : List ME := ⟨117,[exA,(i6 3),(.agg [(i6 2),f6,(i6 7),e6,(i6 0),n6,n6,n6])],none,((.tup [(.str (.mk #[14])),(i6 0)]),none)⟩ :: awk_M45
theorem awk_k46 : q0g allT q02 awk_M46 := awk_k45.more 3000 _ (by kernel_rfl)
def awk_M47 : List ME := ⟨84,[exA,(i6 3),(.agg [(i6 2),f6,(i6 7),e6,(i6 0),n6,n6,n6])],none,((.str (.mk #[14])),none)⟩ :: awk_M46
theorem awk_k47 : q0g allT q02 awk_M47 := awk_k46.more 3000 _ (by kernel_rfl)
def awk_M48 : List ME := ⟨67,[exA,(i6 3),(.agg [(i6 2),f6,(i6 7),e6,(i6 0),n6,n6,n6])],none,((.agg [t6,f6,(.str (.mk #[14])),(i6 2),f6,(i6 7),e6,(i6 0),n6,n6,n6]),none)⟩ :: awk_M47
theorem awk_k48 : q0g allT q02 awk_M48 := awk_k47.more 3000 _ (by kernel_rfl)
def awk_M49 : List ME := ⟨48,[exA,(i6 3),(.agg [(i6 2),e6,(i6 7),(i6 7),(i6 0),n6,n6,(i6 0),(i6 0),f6]),(.bl [[f6,f6,e6,(i6 0),f6,(i6 0),e6,(i6 0),n6,n6,n6],[t6,f6,e6,(i6 7),f6,(i6 0),e6,(i6 0),n6,n6,n6],[t6,f6,(.str (.mk #[2,0])),(i6 5),f6,(i6 0),e6,(i6 0),n6,(.sl false [[(i6 7),f6,(i6 0),e6,(i6 0),n6,n6,n6]]),n6],[f6,f6,e6,(i6 0),f6,(i6 0),e6,(i6 0),n6,n6,n6],[f6,f6,e6,(i6 0),f6,(i6 0),e6,(i6 0),n6,n6,n6]])],none,((.agg [t6,f6,(.str (.mk #[14])),(i6 2),f6,(i6 7),e6,(i6 0),n6,n6,n6]),none)⟩ :: awk_M48
theorem awk_k49 : q0g allT q02 awk_M49 := awk_k48.more 3000 _ (by kernel_rfl)
def awk_M50 : List ME := ⟨49,[(.agg [t6,f6,(.str (.mk #[14])),(i6 2),f6,(i6 7),e6,(i6 0),n6,n6,n6]),(.agg [f6,f6,e6,(i6 0),f6,(i6 0),e6,(i6 0),n6,n6,n6])],none,(t6,none)⟩ :: awk_M49
theorem awk_k50 : q0g allT q02 awk_M50 := awk_k49.more 3000 _ (by kernel_rfl)
def awk_M51 : List ME := ⟨82,[exA,(i6 4),(.agg [(i6 6),f6,(i6 0),e6,(i6 2),n6,(.sl false [[(i6 2),f6,(i6 7),e6,(i6 0),n6,n6,n6]]),n6]),f6],none,(t6,none)⟩ :: awk_M50
theorem awk_k51 : q0g allT q02 awk_M51 := awk_k50.more 3000 _ (by kernel_rfl)
def awk_M52 : List ME := ⟨115,[exA,(i6 4),(.agg [(i6 6),f6,(i6 0),e6,(i6 2),n6,(.sl false [[(i6 2),f6,(i6 7),e6,(i6 0),n6,n6,n6]]),n6])],none,((i6 0),none)⟩ :: awk_M51
theorem awk_k52 : q0g allT q02 awk_M52 := awk_k51.more 3000 _ (by kernel_rfl)
def awk_M53 : List ME := ⟨116,[.undef,.undef,(.ptr 0 0 0),(i6 3),(.agg [(i6 2),f6,(i6 7),e6,(i6 0),n6,n6,n6]),(i6 2)],(some (.agg [exA0,(i6 1)])),((.str (.mk #[14])),(some (.agg [exA0,(i6 2)])))⟩ :: awk_M52
theorem awk_k53 : q0g allT q02 awk_M53 := awk_k52.more 3000 _ (by kernel_rfl)
def awk_M54 : List ME := ⟨116,[.undef,.undef,(.ptr 0 0 0),(i6 4),(.agg [(i6 6),f6,(i6 0),e6,(i6 2),n6,(.sl false [[(i6 2),f6,(i6 7),e6,(i6 0),n6,n6,n6]]),n6]),(i6 1)],(some (.agg [exA0,(i6 0)])),((.str (.mk #[2,14])),(some (.agg [exA0,(i6 2)])))⟩ :: awk_M53
theorem awk_k54 : q0g allT q02 awk_M54 := awk_k53.more 3000 _ (by kernel_rfl)
def awk_M55 : List ME := ⟨83,[exA,(i6 4),(.agg [(i6 6),f6,(i6 0),e6,(i6 2),n6,(.sl false [[(i6 2),f6,(i6 7),e6,(i6 0),n6,n6,n6]]),n6])],none,((.tup [(i6 2),(i6 0)]),none)⟩ :: awk_M54
theorem awk_k55 : q0g allT q02 awk_M55 := awk_k54.more 3000 _ (by kernel_rfl)
def awk_M56 : List ME := ⟨117,[exA,(i6 4),(.agg [(i6 6),f6,(i6 0),e6,(i6 2),n6,(.sl false [[(i6 2),f6,(i6 7),e6,(i6 0),n6,n6,n6]]),n6])],none,((.tup [(.str (.mk #[2,14])),(i6 0)]),none)⟩ :: awk_M55
theorem awk_k56 : q0g allT q02 awk_M56 := awk_k55.more 3000 _ (by kernel_rfl)
def awk_M57 : List ME := ⟨84,[exA,(i6 4),(.agg [(i6 6),f6,(i6 0),e6,(i6 2),n6,(.sl false [[(i6 2),f6,(i6 7),e6,(i6 0),n6,n6,n6]]),n6])],none,((.str (.mk #[2,14])),none)⟩ :: awk_M56
theorem awk_k57 : q0g allT q02 awk_M57 := awk_k56.more 3000 _ (by kernel_rfl)
def awk_M58 : List ME := ⟨67,[exA,(i6 4),(.agg [(i6 6),f6,(i6 0),e6,(i6 2),n6,(.sl false [[(i6 2),f6,(i6 7),e6,(i6 0),n6,n6,n6]]),n6])],none,((.agg [t6,f6,(.str (.mk #[2,14])),(i6 6),f6,(i6 0),e6,(i6 2),n6,(.sl false [[(i6 2),f6,(i6 7),e6,(i6 0),n6,n6,n6]]),n6]),none)⟩ :: awk_M57
theorem awk_k58 : q0g allT q02 awk_M58 := awk_k57.more 3000 _ (by kernel_rfl)
def awk_M59 : List ME := ⟨49,[(.agg [t6,f6,(.str (.mk #[2,14])),(i6 6),f6,(i6 0),e6,(i6 2),n6,(.sl false [[(i6 2),f6,(i6 7),e6,(i6 0),n6,n6,n6]]),n6]),(.agg [f6,f6,e6,(i6 0),f6,(i6 0),e6,(i6 0),n6,n6,n6])],none,(t6,none)⟩ :: awk_M58
theorem awk_k59 : q0g allT q02 awk_M59 := awk_k58.more 3000 _ (by kernel_rfl)
def awk_M60 : List ME := ⟨48,[exA,(i6 4),(.agg [(i6 6),(.str (.mk #[85])),(i6 0),(i6 0),(i6 0),n6,(.sl false [[(i6 1),(.str (.mk #[120])),(i6 0),f6,f6,(i6 0),f6,(i6 0),e6,(i6 0),n6,n6,n6],[(i6 2),(.str (.mk #[121])),(i6 3),f6,f6,(i6 0),f6,(i6 0),e6,(i6 0),n6,n6,n6]]),(i6 0),(i6 0),f6]),(.bl [[f6,f6,e6,(i6 0),f6,(i6 0),e6,(i6 0),n6,n6,n6],[t6,f6,e6,(i6 7),f6,(i6 0),e6,(i6 0),n6,n6,n6],[t6,f6,(.str (.mk #[2,0])),(i6 5),f6,(i6 0),e6,(i6 0),n6,(.sl false [[(i6 7),f6,(i6 0),e6,(i6 0),n6,n6,n6]]),n6],[t6,f6,(.str (.mk #[14])),(i6 2),f6,(i6 7),e6,(i6 0),n6,n6,n6],[f6,f6,e6,(i6 0),f6,(i6 0),e6,(i6 0),n6,n6,n6]])],none,((.agg [t6,f6,(.str (.mk #[2,14])),(i6 6),f6,(i6 0),e6,(i6 2),n6,(.sl false [[(i6 2),f6,(i6 7),e6,(i6 0),n6,n6,n6]]),n6]),none)⟩ :: awk_M59
theorem awk_k60 : q0g allT q02 awk_M60 := awk_k59.more 3000 _ (by kernel_rfl)
def awk_M61 : List ME := ⟨48,[exA,(i6 0),(.agg [(i6 5),(.str (.mk #[65])),(i6 0),(i6 0),(i6 0),n6,(.sl false [[(i6 1),(.str (.mk #[97])),(i6 0),f6,f6,(i6 0),f6,(i6 0),e6,(i6 0),n6,n6,n6]]),(i6 0),(i6 0),f6]),(.bl [[f6,f6,e6,(i6 0),f6,(i6 0),e6,(i6 0),n6,n6,n6],[t6,f6,e6,(i6 7),f6,(i6 0),e6,(i6 0),n6,n6,n6],[t6,f6,(.str (.mk #[2,0])),(i6 5),f6,(i6 0),e6,(i6 0),n6,(.sl false [[(i6 7),f6,(i6 0),e6,(i6 0),n6,n6,n6]]),n6],[t6,f6,(.str (.mk #[14])),(i6 2),f6,(i6 7),e6,(i6 0),n6,n6,n6],[t6,f6,(.str (.mk #[2,14])),(i6 6),f6,(i6 0),e6,(i6 2),n6,(.sl false [[(i6 2),f6,(i6 7),e6,(i6 0),n6,n6,n6]]),n6]])],none,((.agg [f6,f6,e6,(i6 0),f6,(i6 0),e6,(i6 0),n6,n6,n6]),none)⟩ :: awk_M60
theorem awk_k61 : q0g allT q02 awk_M61 := awk_k60.more 3000 _ (by kernel_rfl)
def awk_M62 : List ME := ⟨48,[exA,(i6 1),(.agg [(i6 7),e6,(i6 0),(i6 0),(i6 3),n6,n6,(i6 0),(i6 2),f6]),(.bl [[f6,f6,e6,(i6 0),f6,(i6 0),e6,(i6 0),n6,n6,n6],[t6,f6,e6,(i6 7),f6,(i6 0),e6,(i6 0),n6,n6,n6],[t6,f6,(.str (.mk #[2,0])),(i6 5),f6,(i6 0),e6,(i6 0),n6,(.sl false [[(i6 7),f6,(i6 0),e6,(i6 0),n6,n6,n6]]),n6],[t6,f6,(.str (.mk #[14])),(i6 2),f6,(i6 7),e6,(i6 0),n6,n6,n6],[t6,f6,(.str (.mk #[2,14])),(i6 6),f6,(i6 0),e6,(i6 2),n6,(.sl false [[(i6 2),f6,(i6 7),e6,(i6 0),n6,n6,n6]]),n6]])],none,((.agg [t6,f6,e6,(i6 7),f6,(i6 0),e6,(i6 0),n6,n6,n6]),none)⟩ :: awk_M61
theorem awk_k62 : q0g allT q02 awk_M62 := awk_k61.more 3000 _ (by kernel_rfl)
def awk_M63 : List ME := ⟨49,[(.agg [t6,f6,e6,(i6 7),f6,(i6 0),e6,(i6 0),n6,n6,n6]),(.agg [t6,f6,e6,(i6 7),f6,(i6 0),e6,(i6 0),n6,n6,n6])],none,(f6,none)⟩ :: awk_M62
theorem awk_k63 : q0g allT q02 awk_M63 := awk_k62.more 3000 _ (by kernel_rfl)
def awk_M64 : List ME := ⟨48,[exA,(i6 2),(.agg [(i6 5),(.str (.mk #[66])),(i6 0),(i6 0),(i6 0),n6,(.sl false [[(i6 1),(.str (.mk #[98])),(i6 1),f6,f6,(i6 0),f6,(i6 0),e6,(i6 0),n6,n6,n6]]),(i6 0),(i6 0),f6]),(.bl [[f6,f6,e6,(i6 0),f6,(i6 0),e6,(i6 0),n6,n6,n6],[t6,f6,e6,(i6 7),f6,(i6 0),e6,(i6 0),n6,n6,n6],[t6,f6,(.str (.mk #[2,0])),(i6 5),f6,(i6 0),e6,(i6 0),n6,(.sl false [[(i6 7),f6,(i6 0),e6,(i6 0),n6,n6,n6]]),n6],[t6,f6,(.str (.mk #[14])),(i6 2),f6,(i6 7),e6,(i6 0),n6,n6,n6],[t6,f6,(.str (.mk #[2,14])),(i6 6),f6,(i6 0),e6,(i6 2),n6,(.sl false [[(i6 2),f6,(i6 7),e6,(i6 0),n6,n6,n6]]),n6]])],none,((.agg [t6,f6,(.str (.mk #[2,0])),(i6 5),f6,(i6 0),e6,(i6 0),n6,(.sl false [[(i6 7),f6,(i6 0),e6,(i6 0),n6,n6,n6]]),n6]),none)⟩ :: awk_M63
theorem awk_k64 : q0g allT q02 awk_M64 := awk_k63.more 3000 _ (by kernel_rfl)
def awk_M65 : List ME := ⟨49,[(.agg [t6,f6,(.str (.mk #[2,0])),(i6 5),f6,(i6 0),e6,(i6 0),n6,(.sl false [[(i6 7),f6,(i6 0),e6,(i6 0),n6,n6,n6]]),n6]),(.agg [t6,f6,(.str (.mk #[2,0])),(i6 5),f6,(i6 0),e6,(i6 0),n6,(.sl false [[(i6 7),f6,(i6 0),e6,(i6 0),n6,n6,n6]]),n6])],none,(f6,none)⟩ :: awk_M64
theorem awk_k65 : q0g allT q02 awk_M65 := awk_k64.more 3000 _ (by kernel_rfl)
def awk_M66 : List ME := ⟨48,[exA,(i6 3),(.agg [(i6 2),e6,(i6 7),(i6 7),(i6 0),n6,n6,(i6 0),(i6 0),f6]),(.bl [[f6,f6,e6,(i6 0),f6,(i6 0),e6,(i6 0),n6,n6,n6],[t6,f6,e6,(i6 7),f6,(i6 0),e6,(i6 0),n6,n6,n6],[t6,f6,(.str (.mk #[2,0])),(i6 5),f6,(i6 0),e6,(i6 0),n6,(.sl false [[(i6 7),f6,(i6 0),e6,(i6 0),n6,n6,n6]]),n6],[t6,f6,(.str (.mk #[14])),(i6 2),f6,(i6 7),e6,(i6 0),n6,n6,n6],[t6,f6,(.str (.mk #[2,14])),(i6 6),f6,(i6 0),e6,(i6 2),n6,(.sl false [[(i6 2),f6,(i6 7),e6,(i6 0),n6,n6,n6]]),n6]])],none,((.agg [t6,f6,(.str (.mk #[14])),(i6 2),f6,(i6 7),e6,(i6 0),n6,n6,n6]),none)⟩ :: awk_M65
theorem awk_k66 : q0g allT q02 awk_M66 := awk_k65.more 3000 _ (by kernel_rfl)
def awk_M67 : List ME := ⟨49,[(.agg [t6,f6,(.str (.mk #[14])),(i6 2),f6,(i6 7),e6,(i6 0),n6,n6,n6]),(.agg [t6,f6,(.str (.mk #[14])),(i6 2),f6,(i6 7),e6,(i6 0),n6,n6,n6])],none,(f6,none)⟩ :: awk_M66
theorem awk_k67 : q0g allT q02 awk_M67 := awk_k66.more 3000 _ (by kernel_rfl)
def awk_M68 : List ME := ⟨48,[exA,(i6 4),(.agg [(i6 6),(.str (.mk #[85])),(i6 0),(i6 0),(i6 0),n6,(.sl false [[(i6 1),(.str (.mk #[120])),(i6 0),f6,f6,(i6 0),f6,(i6 0),e6,(i6 0),n6,n6,n6],[(i6 2),(.str (.mk #[121])),(i6 3),f6,f6,(i6 0),f6,(i6 0),e6,(i6 0),n6,n6,n6]]),(i6 0),(i6 0),f6]),(.bl [[f6,f6,e6,(i6 0),f6,(i6 0),e6,(i6 0),n6,n6,n6],[t6,f6,e6,(i6 7),f6,(i6 0),e6,(i6 0),n6,n6,n6],[t6,f6,(.str (.mk #[2,0])),(i6 5),f6,(i6 0),e6,(i6 0),n6,(.sl false [[(i6 7),f6,(i6 0),e6,(i6 0),n6,n6,n6]]),n6],[t6,f6,(.str (.mk #[14])),(i6 2),f6,(i6 7),e6,(i6 0),n6,n6,n6],[t6,f6,(.str (.mk #[2,14])),(i6 6),f6,(i6 0),e6,(i6 2),n6,(.sl false [[(i6 2),f6,(i6 7),e6,(i6 0),n6,n6,n6]]),n6]])],none,((.agg [t6,f6,(.str (.mk #[2,14])),(i6 6),f6,(i6 0),e6,(i6 2),n6,(.sl false [[(i6 2),f6,(i6 7),e6,(i6 0),n6,n6,n6]]),n6]),none)⟩ :: awk_M67
theorem awk_k68 : q0g allT q02 awk_M68 := awk_k67.more 3000 _ (by kernel_rfl)
def awk_M69 : List ME := ⟨49,[(.agg [t6,f6,(.str (.mk #[2,14])),(i6 6),f6,(i6 0),e6,(i6 2),n6,(.sl false [[(i6 2),f6,(i6 7),e6,(i6 0),n6,n6,n6]]),n6]),(.agg [t6,f6,(.str (.mk #[2,14])),(i6 6),f6,(i6 0),e6,(i6 2),n6,(.sl false [[(i6 2),f6,(i6 7),e6,(i6 0),n6,n6,n6]]),n6])],none,(f6,none)⟩ :: awk_M68
theorem awk_k69 : q0g allT q02 awk_M69 := awk_k68.more 3000 _ (by kernel_rfl)
def awk_M70 : List ME := ⟨34,[exA],none,((.sl false [[f6,f6,e6,(i6 0),f6,(i6 0),e6,(i6 0),n6,n6,n6],[t6,f6,e6,(i6 7),f6,(i6 0),e6,(i6 0),n6,n6,n6],[t6,f6,(.str (.mk #[2,0])),(i6 5),f6,(i6 0),e6,(i6 0),n6,(.sl false [[(i6 7),f6,(i6 0),e6,(i6 0),n6,n6,n6]]),n6],[t6,f6,(.str (.mk #[14])),(i6 2),f6,(i6 7),e6,(i6 0),n6,n6,n6],[t6,f6,(.str (.mk #[2,14])),(i6 6),f6,(i6 0),e6,(i6 2),n6,(.sl false [[(i6 2),f6,(i6 7),e6,(i6 0),n6,n6,n6]]),n6]]),none)⟩ :: awk_M69
theorem awk_k70 : q0g allT q02 awk_M70 := awk_k69.more 3000 _ (by kernel_rfl)
def awk_M71 : List ME := ⟨13,[exA,(i6 2)],none,((.tup [(i6 2),(i6 0)]),none)⟩ :: awk_M70
theorem awk_k71 : q0g allT q02 awk_M71 := awk_k70.more 3000 _ (by kernel_rfl)
def awk_M72 : List ME := ⟨33,[exA,(i6 4)],none,((i6 0),none)⟩ :: awk_M71
theorem awk_k72 : q0g allT q02 awk_M72 := awk_k71.more 3000 _ (by kernel_rfl)
def awk_M73 : List ME := ⟨15,[exA,(i6 4)],none,((.tup [t6,(i6 0)]),none)⟩ :: awk_M72
theorem awk_k73 : q0g allT q02 awk_M73 := awk_k72.more 3000 _ (by kernel_rfl)
def awk_M74 : List ME := ⟨38,[(.agg [(i6 2),f6,(i6 7),e6,(i6 0),n6,n6,n6])],none,((.agg [(i6 2),f6,(i6 7),e6,(i6 0),n6,n6,n6]),none)⟩ :: awk_M73
theorem awk_k74 : q0g allT q02 awk_M74 := awk_k73.more 3000 _ (by kernel_rfl)
def awk_M75 : List ME := ⟨38,[(.agg [(i6 6),f6,(i6 0),e6,(i6 2),n6,(.sl false [[(i6 2),f6,(i6 7),e6,(i6 0),n6,n6,n6]]),n6])],none,((.agg [(i6 6),f6,(i6 0),e6,(i6 2),n6,(.sl false [[(i6 2),f6,(i6 7),e6,(i6 0),n6,n6,n6]]),n6]),none)⟩ :: awk_M74
theorem awk_k75 : q0g allT q02 awk_M75 := awk_k74.more 3000 _ (by kernel_rfl)
def awk_M76 : List ME := ⟨18,[exA,(i6 4)],none,((.tup [(.agg [(i6 6),f6,(i6 0),e6,(i6 2),n6,(.sl false [[(i6 2),f6,(i6 7),e6,(i6 0),n6,n6,n6]]),n6]),(i6 0)]),none)⟩ :: awk_M75
theorem awk_k76 : q0g allT q02 awk_M76 := awk_k75.more 3000 _ (by kernel_rfl)
def awk_M77 : List ME := ⟨37,[(.agg [(i6 5),(.str (.mk #[65])),(i6 0),(i6 0),(i6 0),n6,(.sl false [[(i6 1),(.str (.mk #[97])),(i6 0),f6,f6,(i6 0),f6,(i6 0),e6,(i6 0),n6,n6,n6]]),(i6 0),(i6 0),f6]),(.bl [[(i6 1073741824)],[(i6 1073741824)],[(i6 1073741824)],[(i6 1073741824)],[(i6 1073741824)]])],none,((i6 1073741824),none)⟩ :: awk_M76
theorem awk_k77 : q0g allT q02 awk_M77 := awk_k76.more 3000 _ (by kernel_rfl)
def awk_M78 : List ME := ⟨37,[(.agg [(i6 7),e6,(i6 0),(i6 0),(i6 3),n6,n6,(i6 0),(i6 2),f6]),(.bl [[(i6 1073741824)],[(i6 1073741824)],[(i6 1073741824)],[(i6 1073741824)],[(i6 1073741824)]])],none,((i6 0),none)⟩ :: awk_M77
theorem awk_k78 : q0g allT q02 awk_M78 := awk_k77.more 3000 _ (by kernel_rfl)
def awk_M79 : List ME := ⟨37,[(.agg [(i6 5),(.str (.mk #[66])),(i6 0),(i6 0),(i6 0),n6,(.sl false [[(i6 1),(.str (.mk #[98])),(i6 1),f6,f6,(i6 0),f6,(i6 0),e6,(i6 0),n6,n6,n6]]),(i6 0),(i6 0),f6]),(.bl [[(i6 1073741824)],[(i6 0)],[(i6 1073741824)],[(i6 1073741824)],[(i6 1073741824)]])],none,((i6 1),none)⟩ :: awk_M78
theorem awk_k79 : q0g allT q02 awk_M79 := awk_k78.more 3000 _ (by kernel_rfl)
def awk_M80 : List ME := ⟨37,[(.agg [(i6 2),e6,(i6 7),(i6 7),(i6 0),n6,n6,(i6 0),(i6 0),f6]),(.bl [[(i6 1073741824)],[(i6 0)],[(i6 1)],[(i6 1073741824)],[(i6 1073741824)]])],none,((i6 0),none)⟩ :: awk_M79
theorem awk_k80 : q0g allT q02 awk_M80 := awk_k79.more 3000 _ (by kernel_rfl)
def awk_M81 : List ME := ⟨37,[(.agg [(i6 6),(.str (.mk #[85])),(i6 0),(i6 0),(i6 0),n6,(.sl false [[(i6 1),(.str (.mk #[120])),(i6 0),f6,f6,(i6 0),f6,(i6 0),e6,(i6 0),n6,n6,n6],[(i6 2),(.str (.mk #[121])),(i6 3),f6,f6,(i6 0),f6,(i6 0),e6,(i6 0),n6,n6,n6]]),(i6 0),(i6 0),f6]),(.bl [[(i6 1073741824)],[(i6 0)],[(i6 1)],[(i6 0)],[(i6 1073741824)]])],none,((i6 1),none)⟩ :: awk_M80
theorem awk_k81 : q0g allT q02 awk_M81 := awk_k80.more 3000 _ (by kernel_rfl)
def awk_M82 : List ME := ⟨37,[(.agg [(i6 5),(.str (.mk #[65])),(i6 0),(i6 0),(i6 0),n6,(.sl false [[(i6 1),(.str (.mk #[97])),(i6 0),f6,f6,(i6 0),f6,(i6 0),e6,(i6 0),n6,n6,n6]]),(i6 0),(i6 0),f6]),(.bl [[(i6 1073741824)],[(i6 0)],[(i6 1)],[(i6 0)],[(i6 1)]])],none,((i6 1073741824),none)⟩ :: awk_M81
theorem awk_k82 : q0g allT q02 awk_M82 := awk_k81.more 3000 _ (by kernel_rfl)
def awk_M83 : List ME := ⟨37,[(.agg [(i6 7),e6,(i6 0),(i6 0),(i6 3),n6,n6,(i6 0),(i6 2),f6]),(.bl [[(i6 1073741824)],[(i6 0)],[(i6 1)],[(i6 0)],[(i6 1)]])],none,((i6 0),none)⟩ :: awk_M82
theorem awk_k83 : q0g allT q02 awk_M83 := awk_k82.more 3000 _ (by kernel_rfl)
def awk_M84 : List ME := ⟨37,[(.agg [(i6 5),(.str (.mk #[66])),(i6 0),(i6 0),(i6 0),n6,(.sl false [[(i6 1),(.str (.mk #[98])),(i6 1),f6,f6,(i6 0),f6,(i6 0),e6,(i6 0),n6,n6,n6]]),(i6 0),(i6 0),f6]),(.bl [[(i6 1073741824)],[(i6 0)],[(i6 1)],[(i6 0)],[(i6 1)]])],none,((i6 1),none)⟩ :: awk_M83
theorem awk_k84 : q0g allT q02 awk_M84 := awk_k83.more 3000 _ (by kernel_rfl)
def awk_M85 : List ME := ⟨37,[(.agg [(i6 2),e6,(i6 7),(i6 7),(i6 0),n6,n6,(i6 0),(i6 0),f6]),(.bl [[(i6 1073741824)],[(i6 0)],[(i6 1)],[(i6 0)],[(i6 1)]])],none,((i6 0),none)⟩ :: awk_M84
theorem awk_k85 : q0g allT q02 awk_M85 := awk_k84.more 3000 _ (by kernel_rfl)
def awk_M86 : List ME := ⟨37,[(.agg [(i6 6),(.str (.mk #[85])),(i6 0),(i6 0),(i6 0),n6,(.sl false [[(i6 1),(.str (.mk #[120])),(i6 0),f6,f6,(i6 0),f6,(i6 0),e6,(i6 0),n6,n6,n6],[(i6 2),(.str (.mk #[121])),(i6 3),f6,f6,(i6 0),f6,(i6 0),e6,(i6 0),n6,n6,n6]]),(i6 0),(i6 0),f6]),(.bl [[(i6 1073741824)],[(i6 0)],[(i6 1)],[(i6 0)],[(i6 1)]])],none,((i6 1),none)⟩ :: awk_M85
theorem awk_k86 : q0g allT q02 awk_M86 := awk_k85.more 3000 _ (by kernel_rfl)
def awk_M87 : List ME := ⟨17,[exA],none,((.tup [(.sl false [[(i6 (-1))],[(i6 0)],[(i6 1)],[(i6 0)],[(i6 1)]]),(i6 0)]),none)⟩ :: awk_M86
theorem awk_k87 : q0g allT q02 awk_M87 := awk_k86.more 3000 _ (by kernel_rfl)
def awk_M88 : List ME := ⟨21,[exA],none,((i6 10),none)⟩ :: awk_M87
theorem awk_k88 : q0g allT q02 awk_M88 := awk_k87.more 3000 _ (by kernel_rfl)
def awk_M89 : List ME := ⟨20,[(.sl false [[f6],[t6],[t6],[t6],[t6]]),(.sl false [[f6],[t6],[t6],[t6],[t6]])],none,(t6,none)⟩ :: awk_M88
theorem awk_k89 : q0g allT q02 awk_M89 := awk_k88.more 3000 _ (by kernel_rfl)
def awk_M90 : List ME := ⟨26,[(.agg [(i6 6),f6,(i6 0),e6,(i6 2),n6,(.sl false [[(i6 2),f6,(i6 7),e6,(i6 0),n6,n6,n6]]),n6]),(.agg [(i6 6),f6,(i6 0),e6,(i6 2),n6,(.sl false [[(i6 2),f6,(i6 7),e6,(i6 0),n6,n6,n6]]),n6])],none,(t6,none)⟩ :: awk_M89
theorem awk_k90 : q0g allT q02 awk_M90 := awk_k89.more 3000 _ (by kernel_rfl)
def awk_M91 : List ME := ⟨25,[(.sl false [[(i6 (-1))],[(i6 0)],[(i6 1)],[(i6 0)],[(i6 1)]]),(.sl false [[(i6 (-1))],[(i6 0)],[(i6 1)],[(i6 0)],[(i6 1)]])],none,(t6,none)⟩ :: awk_M90
theorem awk_k91 : q0g allT q02 awk_M91 := awk_k90.more 3000 _ (by kernel_rfl)
theorem awk_knows : q0g allT q02 awk_M91 := awk_k91
end Go.Proofs.YtdjomefkhdimaaaGreat
namespace Go.Proofs.YtdjomefkhdimaaaGreat
open Go
set_option maxRecDepth 10000
set_option linter.unusedSimpArgs false
theorem mem_parts {l : List Nde} {i : Int} {rc : Bool} {ps : List Prt} : ∀ (n : Nat) (m : Mem), m ∈ q5p l i rc ps n -> ∃ id p, 1 <= id /\ id <= (n : Int) /\ p ∈ ps /\ isPrt l i id p = true /\ m = memZ l i rc id p
 | 0, m, h => by simp [q5p] at h
 | n + 1, m, h => by
  rw [q5p] at h
  rcases List.mem_append.1 h with h | h
  ·obtain ⟨id, p, h1, h2, h3⟩ := mem_parts n m h
   exact ⟨id, p, h1, by omega, h3⟩
  ·unfold memAt at h
   split at h
   ·rename_i p hp
    simp only [List.mem_singleton] at h
    exact ⟨((n + 1 : Nat) : Int), p, by omega, by omega, List.mem_of_find?_eq_some hp, List.find?_some hp, h⟩
   ·cases h
theorem init_ok {l : List Nde} (hl : oks l) (t code : Int) (hc : 0 <= code) : (initZ l t code).1.ok /\ (initZ l t code).1.i64 := by
 have hx : u8 (ndAt l t).a /\ u8 (ndAt l t).b := by
  unfold ndAt
  cases h : l[t.toNat]? with
  | none => exact ⟨⟨by decide, by decide⟩, ⟨by decide, by decide⟩⟩
  | some x =>
   have := hl.2.2 x (List.mem_of_getElem? h)
   exact ⟨this.2.1, this.2.2.1⟩
 obtain ⟨⟨a0, a1⟩, ⟨b0, b1⟩⟩ := hx
 unfold initZ
 split
 ·exact ⟨by rw [Vl.ok_def]; simp [Vl.of, Vl.keys, Vl.items, Vl.rest, Vl.s]; decide, by rw [Vl.i64_def]; simp [Vl.of, Vl.keys, Vl.items, Vl.i, i64R]⟩
 ·refine ⟨?_, ?_⟩
  ·rw [Vl.ok_def]
   refine ⟨by simp [Vl.of, Vl.keys], by simp [Vl.of, Vl.items], by simp [Vl.of, Vl.rest], ?_, by simp [Vl.of, Vl.keys], by simp [Vl.of, Vl.items]⟩
   simp only [Vl.of, Vl.s]
   split <;> exact (by decide)
  ·rw [Vl.i64_def]
   refine ⟨?_, by simp [Vl.of, Vl.keys], by simp [Vl.of, Vl.items]⟩
   simp only [Vl.of, Vl.i, i64R]
   split
   ·have hm : 0 < (ndAt l t).b % 6 + 1 := by omega
    have := Int.emod_nonneg code (show (ndAt l t).b % 6 + 1 ≠ 0 by omega)
    have := Int.emod_lt_of_pos code hm
    simp only [Nde.low]
    omega
   ·omega
theorem memZ_ok {l : List Nde} (hl : oks l) {i : Int} {rc : Bool} {id : Int} {p : Prt} (hp : p.ok) : (memZ l i rc id p).ok /\ (memZ l i rc id p).dflt.i64 := by
 have hf : 0 <= p.flag / 4 := by have := hp.2.2.1; omega
 obtain ⟨h1, h2⟩ := init_ok hl (tgtZ l i p.ty) (p.flag / 4) hf
 have hz : Vl.zero.ok /\ Vl.zero.i64 := ⟨by rw [Vl.ok_def]; simp [Vl.zero, Vl.keys, Vl.items, Vl.rest, Vl.s]; decide, by rw [Vl.i64_def]; simp [Vl.zero, Vl.keys, Vl.items, Vl.i, i64R]⟩
 have hn : (memZ l i rc id p).name.size <= 9223372036854775807 := by
  have := enc_size (97 + id)
  have h1 : (⟨#[109]⟩ : ByteArray).size = 1 := rfl
  simp only [memZ, mName, ByteArray.size_append]
  omega
 refine ⟨⟨?_, hn⟩, ?_⟩ <;> simp only [memZ] <;> split <;> first | exact h1 | exact h2 | exact hz.1 | exact hz.2
theorem typZ_ok {l : List Nde} (hl : oks l) (i : Nat) (hi : i < l.length) : (typZ l (i : Int)).fine /\ (typZ l (i : Int)).d64 := by
 have hx := q4m hl hi
 have hm : ∀ rc, ∀ m ∈ q53 l (i : Int) rc (ndAt l (i : Int)).parts, m.ok /\ m.dflt.i64 := fun rc m h => by
  obtain ⟨id, p, _, _, h1, _, rfl⟩ := mem_parts 12 m h
  exact memZ_ok hl (hx.2.2.2.2.2 p h1)
 have hlen : ∀ rc, (q53 l (i : Int) rc (ndAt l (i : Int)).parts).length <= 12 := fun rc => q6A l _ rc _ 12
 have hs : (q6g (ndAt l (i : Int)).a).length <= 6 := by
  have := idsZ_len (ndAt l (i : Int)).a
  simp only [q6g, List.length_map]
  omega
 have base : ∀ k nm, (Typ.of k nm).fine /\ (Typ.of k nm).d64 := fun k nm => ⟨⟨⟨by simp [Typ.of], by simp [Typ.of], by simp [Typ.of]⟩, by simp [Typ.of], by simp [Typ.of]⟩, by simp [Typ.d64, Typ.of]⟩
 have hall : ∀ t : Typ, t.syms.length <= 6 -> t.mems.length <= 12 -> (∀ m ∈ t.mems, m.ok /\ m.dflt.i64) -> t.fine /\ t.d64 := fun t h1 h2 h3 => ⟨⟨⟨by omega, by omega, fun m hm => (h3 m hm).1⟩, by omega, by omega⟩, fun m hm => (h3 m hm).2⟩
 unfold typZ
 simp only
 split
 ·exact base _ _
 ·exact hall _ (by simp [Typ.of]) (by simp [Typ.of]) (by simp [Typ.of])
 ·exact hall _ (by simp [Typ.of]) (by simp [Typ.of]) (by simp [Typ.of])
 ·exact hall _ hs (by simp [Typ.of]) (by simp [Typ.of])
 ·exact hall _ (by simp [Typ.of]) (hlen _) (hm _)
 ·split
  ·exact base _ _
  ·exact hall _ (by simp [Typ.of]) (hlen _) (hm _)
 ·exact hall _ (by simp [Typ.of]) (by simp [Typ.of]) (by simp [Typ.of])
 ·split <;> exact hall _ (by simp [Typ.of]) (by simp [Typ.of]) (by simp [Typ.of])
 ·exact hall _ (by simp [Typ.of]) (by simp [Typ.of]) (by simp [Typ.of])
theorem rwT_ok {n : Nat} {a b : Typ} (h : rwT n a b) (ha : a.fine /\ a.d64) : b.fine /\ b.d64 := by
 obtain ⟨bs, ⟨hl, hm⟩, rfl⟩ := h
 obtain ⟨⟨⟨h1, h2, h3⟩, h4, h5⟩, h6⟩ := ha
 have hz : Vl.zero.ok /\ Vl.zero.i64 := ⟨by rw [Vl.ok_def]; simp [Vl.zero, Vl.keys, Vl.items, Vl.rest, Vl.s]; decide, by rw [Vl.i64_def]; simp [Vl.zero, Vl.keys, Vl.items, Vl.i, i64R]⟩
 have hb : ∀ m ∈ bs, m.ok /\ m.dflt.i64 := fun m hmem => by
  obtain ⟨i, hi, rfl⟩ := List.getElem_of_mem hmem
  have hia : i < a.mems.length := by omega
  obtain ⟨g1, g2, g3, g4⟩ := hm i _ _ (List.getElem?_eq_getElem hia) (List.getElem?_eq_getElem hi)
  have hao := h3 _ (List.getElem_mem hia)
  have had := h6 _ (List.getElem_mem hia)
  rcases g4 with g4 | ⟨_, _, _, g4⟩
  ·rw [g4]; exact ⟨hao, had⟩
  ·exact ⟨⟨by rw [g4]; exact hz.1, by rw [g2]; exact hao.2⟩, by rw [g4]; exact hz.2⟩
 exact ⟨⟨⟨h1, by dsimp only; omega, fun m hmem => (hb m hmem).1⟩, h4, by dsimp only; omega⟩, fun m hmem => (hb m hmem).2⟩
theorem rwS_ok {l : List Nde} (hl : oks l) {T : List Typ} (h : rwS l.length (q4G l) T) : (⟨false, T⟩ : Sch).fine /\ (⟨false, T⟩ : Sch).d64 := by
 obtain ⟨hlen, h⟩ := h
 have hl5 := hl.2.1
 have hdl : (q4G l).length = l.length := by simp [q4G]
 have hT : ∀ t ∈ T, t.fine /\ t.d64 := fun t ht => by
  obtain ⟨i, hi, rfl⟩ := List.getElem_of_mem ht
  have hi' : i < l.length := by omega
  have := h i (typZ l (i : Int)) _ (by simp [q4G, hi']) (List.getElem?_eq_getElem hi)
  exact rwT_ok this (typZ_ok hl i hi')
 exact ⟨⟨by dsimp only; omega, fun t ht => (hT t ht).1⟩, fun t ht => (hT t ht).2⟩
theorem awake11_ev : evA 8 [] (.bool true) := awk_knows.run 3000 (by kernel_rfl)
theorem sound11_ev {dn wn : Bool} {l : List Nde} (hl : ∀ x ∈ l, x.ok) {ws : List Wire} (hw : ∀ w ∈ ws, w.ok) : evA 5 [.agg [.sl dn (l.map ndeC), .sl wn (ws.map wireC)]] (.bool true) := by
 have haw := awake11_ev
 refine q00 (c := q13) rfl rfl ?_
 obtain ⟨r, h, hof⟩ := of11_ev (dn := dn) (wn := wn) hl hw
 rcases h with ⟨_, rfl⟩ | ⟨ho, _, T, hT, rfl⟩
 ·simp [q13, -Option.bind_some, -Int.toNat_lt, -List.map_map, List.range_succ, hof, haw]
 ·obtain ⟨hf, h6⟩ := rwS_ok ho hT
  obtain ⟨e, h1, h2⟩ := both_sound _ hf h6
  simp only [evA, schC] at h1 h2
  simp [q13, -Option.bind_some, -Int.toNat_lt, -List.map_map, List.range_succ, hof, haw, h1, h2]
end Go.Proofs.YtdjomefkhdimaaaGreat
namespace Go.Proofs.YtdjomefkhdimaaaGreat
open Go Go.RowKit Go.ChangeShapes Go.WideShapes
theorem mixed : Tryz.prog.follows .mixedOrders = true := by kernel_rfl
theorem list_of {α : Type} {sh : List Cs} {f : α -> List AV} {p : α -> Prop} (h : ∀ x, TyL sh x -> ∃ o, x = f o /\ p o) : ∀ els : List (List AV), (∀ x ∈ els, TyL sh x) -> ∃ L : List α, els = L.map f /\ ∀ o ∈ L, p o
 | [], _ => ⟨[], rfl, fun _ h => by cases h⟩
 | x :: r, hx => by
  obtain ⟨L, h1, h2⟩ := list_of h r fun y hy => hx y (List.mem_cons_of_mem _ hy)
  obtain ⟨o, h3, h4⟩ := h x (hx x List.mem_cons_self)
  refine ⟨o :: L, by rw [h1, h3]; rfl, fun y hy => ?_⟩
  rcases List.mem_cons.1 hy with rfl | hy
  ·exact h4
  ·exact h2 y hy
theorem u8_of {n : Int} (h : (Lit.int .u8 n).wf = true) : u8 n := by
 simp only [Lit.wf, Bool.and_eq_true, decide_eq_true_eq] at h
 have h1 : IntKind.u8.min = 0 := rfl
 have h2 : IntKind.u8.max = 255 := rfl
 exact ⟨by omega, by omega⟩
def prtSh : List Cs := [.int .u8, .int .u8, .int .u8]
def ndeSh : List Cs := [.int .u8, .int .u8, .int .u8, .int .u8, .sl prtSh]
theorem prtTy (x : List AV) (h : TyL prtSh x) : ∃ p : Prt, x = prtC p /\ p.ok := by
 simp only [prtSh, TyL, TyC] at h
 obtain ⟨_, _, rfl, ⟨a, rfl, ha⟩, _, _, rfl, ⟨b, rfl, hb⟩, _, _, rfl, ⟨c, rfl, hc⟩, rfl⟩ := h
 exact ⟨⟨a, b, c⟩, rfl, u8_of ha, u8_of hb, u8_of hc⟩
theorem wireTy (x : List AV) (h : TyL prtSh x) : ∃ w : Wire, x = wireC w /\ w.ok := by
 simp only [prtSh, TyL, TyC] at h
 obtain ⟨_, _, rfl, ⟨a, rfl, ha⟩, _, _, rfl, ⟨b, rfl, hb⟩, _, _, rfl, ⟨c, rfl, hc⟩, rfl⟩ := h
 exact ⟨⟨a, b, c⟩, rfl, u8_of ha, u8_of hb, u8_of hc⟩
theorem ndeTy (x : List AV) (h : TyL ndeSh x) : ∃ n : Nde, x = ndeC n /\ n.ok := by
 simp only [ndeSh, TyL, TyC] at h
 obtain ⟨_, _, rfl, ⟨a, rfl, ha⟩, _, _, rfl, ⟨b, rfl, hb⟩, _, _, rfl, ⟨c, rfl, hc⟩, _, _, rfl, ⟨d, rfl, hd⟩, _, _, rfl, ⟨pn, els, rfl, hle, he⟩, rfl⟩ := h
 obtain ⟨L, rfl, hL⟩ := list_of prtTy els he
 exact ⟨⟨a, b, c, d, pn, L⟩, rfl, u8_of ha, u8_of hb, u8_of hc, u8_of hd, by simpa [maxLen] using hle, hL⟩
theorem looseTy {a : AV} (h : ParTy Tryz.prog 8 52 a) : ∃ dn, ∃ l : List Nde, ∃ wn, ∃ ws : List Wire, a = .agg [.sl dn (l.map ndeC), .sl wn (ws.map wireC)] /\ (∀ x ∈ l, x.ok) /\ ∀ w ∈ ws, w.ok := by
 obtain ⟨sh, hs, h⟩ := h
 have hs' : shOf Tryz.prog 8 52 = some [.sl ndeSh, .sl prtSh] := by kernel_rfl
 rw [hs'] at hs
 injection hs with hs
 subst hs
 rcases h with ⟨_, l, rfl, h⟩ | ⟨hw, _⟩
 ·simp only [TyL, TyC] at h
  obtain ⟨_, _, rfl, ⟨dn, els, rfl, _, he⟩, _, _, rfl, ⟨wn, els', rfl, _, he'⟩, rfl⟩ := h
  obtain ⟨L, rfl, hL⟩ := list_of ndeTy els he
  obtain ⟨M, rfl, hM⟩ := list_of wireTy els' he'
  exact ⟨dn, L, wn, M, rfl, hL, hM⟩
 ·have hw' : q6l Tryz.prog 52 = true := by kernel_rfl
  rw [hw'] at hw
  cases hw
end Go.Proofs.YtdjomefkhdimaaaGreat
namespace Go.Proofs.YtdjomefkhdimaaaGreat
open Go.ChangeShapes Go.WideShapes Go.ChangeAt Go.RowKit
theorem own : ownKnob Tryz.prog.godebug = none := by kernel_rfl
theorem laidOut : laidOutB Tryz.prog = true := by kernel_rfl
theorem post_of_below {H : Type} {enc : TypeId × Value -> H} {P : Program} {f : Func} {s : ChangeSpec} {apart fresh handsOn : Bool} {W W' : World} {args : Array Value} {v : Value} {ds gs : List (DataW H)} {before pa pv : List MemPlace}
  (hW : DataW.Whole enc P f.params.toList s.vars apart W args.toList ds gs before)
  (hres : ∀ (b : Nat) (sp : Nat -> Bool) (hd : Bool), DataW.TrodAll enc P W' b sp hd f.resultTypes.toList (v.resultList f.resultTypes.size) (s.fn H (ds ++ gs)).results [])
  (hargs : DataW.TrodAll enc P W' 0 (fun b => decide (b < W.heap.size)) true f.params.toList args.toList (s.fn H (ds ++ gs)).args pa)
  (hvars : DataW.TrodVars enc P W' (fun b => decide (b < W.heap.size)) s.vars (s.fn H (ds ++ gs)).vars pv)
  (hb : Below W.heap.size W W') : s.post enc P f apart fresh handsOn false W args v W' :=
 ⟨ds, gs, before, [], pa, pv, hW, hres _ _ _, hargs, hvars, hb.frame _, fun h => by cases h⟩
end Go.Proofs.YtdjomefkhdimaaaGreat
namespace Go.Proofs.YtdjomefkhdimaaaGreat
open Go Go.RowKit Go.ChangeShapes Go.WideShapes Go.ChangeAt
theorem ok_law_InhabitSound : FnOk Tryz.prog 5 q13 := ⟨fun xs w => by kernel_rfl, _, Tryz.func5, by kernel_rfl⟩
set_option maxRecDepth 100000 in
theorem inhabitSound_lifted (os : Os) (started : os.Started) (H : Type) (enc : TypeId × Value -> H) :
  ReturnsInHanded {} Tryz.checked os 5 .any (Rows.inhabitSoundSpec.pre6 enc Tryz.prog Tryz.f5 Rows.inhabitSoundRow.domain false) (Rows.inhabitSoundSpec.post enc Tryz.prog Tryz.f5 false true false false) := by
 refine returnsInHanded_of_change (C := Tryz.checked) own started (by kernel_rfl) Tryz.func5
  (ChangeSpec.witness6 (enc := enc) (C := Tryz.checked) false ⟨#[], #[.agg #[.slice none 0 0, .slice none 0 0]], []⟩ 8 (by kernel_rfl) (by kernel_rfl) (by kernel_rfl) (by kernel_rfl)) ?_
 intro W base args ds gs before hval0 hW hcnd _
 have hval : ∀ (j : Nat) t v, Tryz.f5.params[j]? = some t -> args[j]? = some v -> Value.okWide Tryz.prog W .any base t v := hval0
 have hW' := hW
 obtain ⟨p, q, hA0, hV, rfl, hfz, hnd⟩ := hW
 have hA : DataW.TrodAll enc Tryz.prog W 0 (fun _ => true) true Tryz.f5.params.toList args.toList ds p := hA0
 rw [Tryz.params5] at hA hval
 have hA1 : DataW.TrodAll enc Tryz.prog W 0 (fun _ => true) true [52] args.toList ds p := hA
 obtain ⟨xs, hx, hty⟩ := args_rep (k := 8) hA1 (fun j t v e e' => hval j t v (by simpa using e) (by simpa using e')) (by kernel_rfl)
 simp only [ArgsTy] at hty
 obtain ⟨a0, _, rfl, t0, rfl⟩ := hty
 obtain ⟨dn, l, wn, ws, rfl, hl, hw⟩ := looseTy t0
 have hd : ∃ d0, ds = [d0] := by
  obtain ⟨_, _, d0, _, _, _, _, rfl, _, _, r0⟩ := trodAll_cons hA1
  obtain ⟨_, rfl, _⟩ := trodAll_nil r0
  exact ⟨d0, rfl⟩
 obtain ⟨d0, rfl⟩ := hd
 obtain ⟨rfl, rfl⟩ := trodVars_none hV
 have hev := sound11_ev (dn := dn) (wn := wn) hl hw
 have hC := (ev_sound mixed allT_ok (bldExt_ok (O := noObjs.of)) hev).2 Av0 W args.toList (fun _ _ h => h.elim) hx
 rw [Array.toArray_toList] at hC
 refine hC.mono fun e W' ⟨v, he, hv, hb⟩ => ?_
 have hv' : v = .bool true := hv
 subst he
 subst hv'
 exact ⟨_, rfl, post_of_below (pa := p) (pv := []) hW' (fun _ _ _ => trodAll_cons_mk (shut_bool Tryz.underlying4 _) trodAll_mk0) (args_back laidOut hb hA1 (by kernel_rfl)) rfl hb⟩
theorem inhabitSound_holds : Rows.InhabitSoundSaid :=
 OpenClaim.holds_of_wide 5 Tryz.f5 rfl rfl rfl rfl rfl rfl rfl ⟨rfl, rfl, rfl, rfl, rfl⟩ rfl rfl rfl rfl rfl (by kernel_rfl) Tryz.func5 (by kernel_rfl)
  (of_decide_eq_true (by kernel_rfl)) (by unfold Func.isWrapper; first | (rw [if_pos (by decide +kernel)]; kernel_rfl) | (rw [if_neg (by decide +kernel)]; exact ⟨rfl, rfl⟩))
  (fun os started H enc _ => inhabitSound_lifted os started H enc)
end Go.Proofs.YtdjomefkhdimaaaGreat
