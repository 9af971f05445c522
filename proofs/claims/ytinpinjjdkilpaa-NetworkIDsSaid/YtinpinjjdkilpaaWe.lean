/- slices.DeleteFunc over packets -/
import Derived.Test.YtinpinjjdkilpaaWd
namespace Go.Proofs.Ytinpinjjdkilpaa
open Go.RowKit
/-- a row that is cut down in place to some of its packets -/
def Kept (v : Value) (w : World) (l : List Pkt) (e : Ending) (w' : World) : Prop := ∃ v', e = .returned v' ∧ POwn w' v' l ∧ v'.ownBlock = v.ownBlock ∧ Keep (fun b => v.ownBlock = some b) w w'
theorem filter_none {α : Type} (p : α → Bool) (l : List α) (h : l.findIdx? p = none) : l.filter (fun x => !p x) = l := by
  rw [List.filter_eq_self]
  intro x hx
  have := List.findIdx?_eq_none_iff.1 h x hx
  simp [this]
theorem filter_first {α : Type} (p : α → Bool) (l : List α) (i : Nat) (hi : i < l.length) (hp : p l[i] = true) (h : l.findIdx? p = some i) : (l.take (i + 1)).filter (fun x => !p x) = l.take i := by
  have hb := (List.findIdx?_eq_some_iff_getElem.1 h).2.2
  rw [List.take_succ_eq_append_getElem hi, List.filter_append]
  have h1 : (l.take i).filter (fun x => !p x) = l.take i := by
    rw [List.filter_eq_self]
    intro x hx
    obtain ⟨j, hj, rfl⟩ := List.getElem_of_mem hx
    rw [List.length_take] at hj
    rw [List.getElem_take]
    have := hb j (by omega)
    simpa using this
  rw [h1]
  simp [hp]
theorem set_take_drop {α : Type} (cur l : List α) (m k : Nat) (hk : k < l.length) (hmk : m ≤ k) (hlen : cur.length = l.length) (hd : cur.drop k = l.drop k) (x : α) :
    (cur.set m x).take (m + 1) = cur.take m ++ [x] ∧ (cur.set m x).drop (k + 1) = l.drop (k + 1) := by
  constructor
  · rw [List.take_succ_eq_append_getElem (by rw [List.length_set]; omega), List.getElem_set_self, List.take_set_of_le (Nat.le_refl _)]
  · rw [List.drop_set_of_lt (by omega), ← List.drop_drop, hd, List.drop_drop]
/-- what holds at a round's head: the first mm of cur are what is kept of the first k of l, and from k on cur is l -/
def DR (pred : Pkt → Bool) (l : List Pkt) (g cap : Nat) (w : World) (k mm : Nat) (wr : World) : Prop :=
  ∃ cur : List Pkt, k ≤ l.length ∧ mm < k ∧ cur.length = l.length ∧ cur.take mm = (l.take k).filter (fun p => !pred p) ∧ cur.drop k = l.drop k ∧ POwn wr (.slice (some ⟨g, 0, none⟩) l.length cap) cur ∧ Keep (fun b => (Value.slice (some ⟨g, 0, none⟩) l.length cap).ownBlock = some b) w wr
theorem getElem_of_drop {α : Type} {cur l : List α} {k : Nat} (hd : cur.drop k = l.drop k) (h1 : k < cur.length) (h2 : k < l.length) : cur[k] = l[k] := by
  have h := congrArg (fun x => x[0]?) hd
  simp only [List.getElem?_drop, Nat.add_zero, List.getElem?_eq_getElem h1, List.getElem?_eq_getElem h2, Option.some.injEq] at h
  exact h
theorem filter_succ (pred : Pkt → Bool) (l : List Pkt) (k : Nat) (hk : k < l.length) : (l.take (k + 1)).filter (fun p => !pred p) = (l.take k).filter (fun p => !pred p) ++ if pred l[k] then [] else [l[k]] := by
  rw [List.take_succ_eq_append_getElem hk, List.filter_append]
  by_cases h : pred l[k] <;> simp [h]
theorem DR_skip {pred : Pkt → Bool} {l : List Pkt} {g cap : Nat} {w : World} {k mm : Nat} {wr w2 : World} {o : Obj} (hk : k < l.length) (hp : pred l[k] = true) (h : DR pred l g cap w k mm wr) (hb : Below (wr.alloc o).heap.size (wr.alloc o) w2) : DR pred l g cap w (k + 1) mm w2 := by
  obtain ⟨cur, _, hmk, hcl, htk, hdk, hoc, hkp⟩ := h
  have hk2 : Keep (fun _ => False) wr w2 := ((Keep.refl _ wr).alloc _).trans_below hb
  refine ⟨cur, hk, by omega, hcl, ?_, ?_, own_keep hoc hk2 (fun _ _ h => h), hkp.trans hk2 (fun _ _ h => h.elim)⟩
  · rw [filter_succ pred l k hk, if_pos hp, List.append_nil]; exact htk
  · rw [← List.drop_drop, hdk, List.drop_drop]
theorem DR_keep {pred : Pkt → Bool} {l : List Pkt} {g cap : Nat} {w : World} {k mm : Nat} {wr w2 w3 : World} (hk : k < l.length) (hp : pred l[k] = false) (h : DR pred l g cap w k mm wr) (cur : List Pkt) (hcl : cur.length = l.length) (htk : cur.take mm = (l.take k).filter (fun p => !pred p)) (hdk : cur.drop k = l.drop k)
    (hk2 : Keep (fun _ => False) wr w2) (ho3 : POwn w3 (.slice (some ⟨g, 0, none⟩) l.length cap) (cur.set mm l[k])) (hk3 : Keep (fun b => b = g) w2 w3) : DR pred l g cap w (k + 1) (mm + 1) w3 := by
  obtain ⟨_, _, hmk, _, _, _, _, hkp⟩ := h
  have h2 := set_take_drop cur l mm k hk (by omega) hcl hdk l[k]
  refine ⟨cur.set mm l[k], hk, by omega, by rw [List.length_set]; exact hcl, ?_, h2.2, ho3, (hkp.trans hk2 (fun _ _ h => h.elim)).trans hk3 (fun i _ h => by subst h; rfl)⟩
  rw [h2.1, htk, filter_succ pred l k hk, hp]
  simp
set_option maxHeartbeats 1000000 in
theorem deletefunc_any (fc : Nat) (cp : Value) (hfc : ∀ (xs : Array Value) (w : World), (callFunc fc xs).run Try.prog w = .ok (.enter fc xs) w)
    (pred : Pkt → Bool) (w : World) (v : Value) (l : List Pkt) (hown : POwn w v l) (hlen : l.length ≤ 1000)
    (hcall : ∀ w', Keep (fun b => v.ownBlock = some b) w w' → ∀ p : Pkt, Calls Try.prog fc #[p.val, cp] w' fun e w'' => e = .returned (.bool (pred p)) ∧ Below w'.heap.size w' w'') :
    Calls Try.prog 29 #[v, .func (.func fc) #[] #[cp]] w (Kept v w (l.filter fun p => !pred p)) := by
  have hsl : PSl (fun _ => False) w v l := Sl.of_own hown (fun _ _ h => h)
  have HIx := hid (index_any fc cp hfc pred (fun _ => False) w v l hsl (by omega) (fun w' hb p => hcall w' (Keep.of_below hb _) p))
  rcases idxI_cases pred l with ⟨i, hi, hI, hpi, hf⟩ | ⟨hI, hf⟩
  · -- something goes
    rcases hown.2 with ⟨rfl, h0⟩ | ⟨g, cap, cs, rfl, hrest⟩
    · omega
    · have hcap := (own_cap hown).2
      have HI := hid hI
      have HC := hid hcall
      have HO := hid hown
      have HP := hid hpi
      have HF := hid hf
      have hne : (((i : Nat) : Int) == -1) = false := by simp
      clear hI hcall hown hpi hf hsl hrest
      go_enter Try.func29, Try.ntmps29
      go_wp2_with fail
      refine HIx.out.mono ?_
      rintro e w1 ⟨rfl, hb1⟩
      rw [HI.out]
      go_wp2_with fail
      go_loopw [5, 6] (fun m j wr => ∃ k mm : Nat, m = .int .i64 mm ∧ j = .int .i64 k ∧ DR pred l g cap w k mm wr) (fun _ j _ => l.length - (intOf j).toNat)
      case atStart => exact ⟨i + 1, i, rfl, by go_num, l, by omega, by omega, rfl, (filter_first pred l i hi HP.out HF.out).symm, rfl, own_keep HO.out (Keep.of_below hb1 (fun _ => False)) (fun _ _ h => h), Keep.of_below hb1 _⟩
      case round =>
        obtain ⟨k, mm, rfl, rfl, cur, hk, hmk, hcl, htk, hdk, hoc, hkp⟩ := hrel
        by_cases hlt : k < l.length
        · obtain ⟨hbl, e0, e1, e2, e3⟩ := own_at hoc (k := k) (by omega) l[k] (getElem_of_drop hdk (by omega) hlt)
          have HCL := hid hcl
          have HTK := hid htk
          have HDK := hid hdk
          have HOC := hid hoc
          have HKP := hid hkp
          clear hcl htk hdk hoc hkp hb1 HIx HO HP HF
          by_cases hp : pred l[k] = true
          · have HP := hid hp
            clear hp
            go_wp2_with fail
            refine (HC.out _ (HKP.out.alloc _) l[k]).mono ?_
            rintro e w2 ⟨rfl, hb2⟩
            rw [HP.out]
            go_wp2_with fail
            go_roundw
            case rel => exact ⟨k + 1, mm, rfl, by go_num, DR_skip hlt HP.out ⟨cur, hk, hmk, HCL.out, HTK.out, HDK.out, HOC.out, HKP.out⟩ hb2⟩
            case measure => simp [intOf]; omega
          · have HP := hid (Bool.eq_false_iff.2 hp)
            clear hp
            go_wp2_with fail
            refine (HC.out _ (HKP.out.alloc _) l[k]).mono ?_
            rintro e w2 ⟨rfl, hb2⟩
            rw [HP.out]
            have f0 : w2.cell? ⟨wr.heap.size, 0, none⟩ = some (.int .i64 l[k].id) := by rw [hb2.cell (p := ⟨wr.heap.size, 0, none⟩) (by simp)]; simp
            have f1 : w2.cell? ⟨wr.heap.size, 1, none⟩ = some (.int .i64 l[k].src) := by rw [hb2.cell (p := ⟨wr.heap.size, 1, none⟩) (by simp)]; simp
            have f2 : w2.cell? ⟨wr.heap.size, 2, none⟩ = some (.int .i64 l[k].dst) := by rw [hb2.cell (p := ⟨wr.heap.size, 2, none⟩) (by simp)]; simp
            have f3 : w2.cell? ⟨wr.heap.size, 3, none⟩ = some (.string l[k].data) := by rw [hb2.cell (p := ⟨wr.heap.size, 3, none⟩) (by simp)]; simp
            have hk2 : Keep (fun _ => False) wr w2 := ((Keep.refl _ wr).alloc _).trans_below hb2
            have HO2 := hid (own_keep HOC.out hk2 (fun _ _ h => h))
            have HK2 := hid hk2
            clear hk2
            go_wp2_with (with_reducible refine wpList_storeP rfl (.tmp 33) (.tmp 32) rfl g l.length cap cur mm l[k] rfl rfl ?_ HO2.out ?_)
            · rw [HCL.out]; omega
            intro w3 ho3 hk3
            have HO3 := hid ho3
            have HK3 := hid hk3
            clear ho3 hk3
            go_wp2_with fail
            go_roundw
            case rel => exact ⟨k + 1, mm + 1, by go_num, by go_num, DR_keep hlt HP.out ⟨cur, hk, hmk, HCL.out, HTK.out, HDK.out, HOC.out, HKP.out⟩ cur HCL.out HTK.out HDK.out HK2.out HO3.out HK3.out⟩
            case measure => simp [intOf]; omega
        · obtain rfl : k = l.length := by omega
          have hkl : (l.filter fun p => !pred p).length = mm := by
            have h1 := congrArg List.length htk
            rw [List.take_length, List.length_take] at h1
            omega
          have hpre : POwn wr (.slice (some ⟨g, 0, none⟩) mm cap) (l.filter fun p => !pred p) := by
            have h1 : w.heap.size = w.heap.size := rfl
            have h2 := own_take (n := l.length) (xs := pc cur) (k := mm) (by have := hoc; unfold POwn at this; rwa [hcl] at this) (by omega)
            rw [pc_take, htk, List.take_length] at h2
            unfold POwn
            rw [hkl]
            exact h2
          obtain ⟨tl, htl⟩ : ∃ tl : Option Addr, tl = (if cap = mm then some ⟨g, 0, none⟩ else (some (⟨g, 0, none⟩ : Addr)).map (·.add (mm * 4))) := ⟨_, rfl⟩
          have hs1 := loP (some ⟨g, 0, none⟩) l.length cap mm (by omega)
          rw [← htl] at hs1
          have hs2 := hiP (some ⟨g, 0, none⟩) l.length cap mm (by omega)
          obtain ⟨w2, hclr, ho2, hk2⟩ := clearP wr 0 g l.length cap _ mm hkl (by omega) hcap hpre tl (cap - mm) (fun _ => by rw [htl, if_neg (by omega)]; simp [Addr.add_lit])
          have HO2 := hid ho2
          have HK2 := hid hk2
          have HKP := hid hkp
          clear ho2 hk2 hkl hpre htl hcl htk hdk hoc hkp hb1 HIx HO HP HF
          go_wp2_with fail
          go_ret
          exact ⟨_, rfl, HO2.out, rfl, HKP.out.trans HK2.out (fun i _ h => by subst h; rfl)⟩
  · have HI := hid hI
    have HF := hid hf
    clear hI hf hcall hsl
    have HO := hid hown
    clear hown
    obtain ⟨A, c, rfl, hc⟩ := PSl.shape (Sl.of_own (av := fun _ => False) HO.out (fun _ _ h => h))
    go_enter Try.func29, Try.ntmps29
    go_wp2_with fail
    refine HIx.out.mono ?_
    rintro e w1 ⟨rfl, hb1⟩
    rw [HI.out]
    go_wp2_with fail
    go_ret
    exact ⟨_, rfl, by rw [filter_none _ _ HF.out]; exact own_keep HO.out (Keep.of_below hb1 (fun _ => False)) (fun _ _ h => h), rfl, Keep.of_below hb1 _⟩
end Go.Proofs.Ytinpinjjdkilpaa
