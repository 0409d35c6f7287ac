/-
  The reference of layer 16: its slots; Is, With, Begin, Spoil, Fill.
-/
import Derived.Test.YtiaifphidcfddaaActs
set_option linter.unusedVariables false
set_option linter.unusedSimpArgs false
namespace Go.Proofs.Ytiaifphidcfddaa
open Go.RowKit Go.Shelf

/-- A slot of the reference's. -/
structure Rs where
  s : Int
  a : Option Addr
  n : Nat
  cap : Nat
deriving Inhabited
def slotc (x : Rs) : List Value := [.int .i64 x.s, .slice x.a x.n x.cap]
theorem slotc_len (x : Rs) : (slotc x).length = 2 := rfl
theorem slotc_one (x : Rs) : ∀ u ∈ slotc x, u.oneCell' = true := by
  intro u hu
  simp [slotc] at hu
  rcases hu with rfl | rfl <;> rfl
/-- It is the slot s; its pool lies where it lay in w0. -/
def RV (w0 : World) (x : Rs) : Sl → Prop
  | .spoilt => x.s = 0
  | .building => x.s = 1
  | .ready p => x.s = 2 ∧ Rd 2 bkc w0 x.a x.n p ∧ check p = 0
def RAt (w0 wr : World) (h : Nat) (v : Value) (st : List Sl) : Prop :=
  ∃ a cap l, v = .slice a st.length cap ∧ Rd 2 slotc wr a st.length l ∧ (∀ q, a = some q → 0 < st.length → h < q.block) ∧ st.length ≤ 8 ∧ ∀ (i : Nat) s, st[i]? = some s → ∃ x, l[i]? = some x ∧ RV w0 x s

theorem RAt.below {w0 w W : World} {h : Nat} {v : Value} {st : List Sl} (k : RAt w0 w h v st) (hb : Below w.heap.size w W) : RAt w0 W h v st := by
  obtain ⟨a, cap, l, hv, hr, hq, h8, hs⟩ := k
  exact ⟨a, cap, l, hv, hr.below hb, hq, h8, hs⟩
theorem RAt.row {w0 w W : World} {h : Nat} {v : Value} {st : List Sl} (k : RAt w0 w h v st) (hg : w.grownBy W (some h)) : RAt w0 W h v st := by
  obtain ⟨a, cap, l, hv, hr, hq, h8, hs⟩ := k
  exact ⟨a, cap, l, hv, hr.grown hg (fun q hq' h0 e => by have := hq q hq' h0; omega), hq, h8, hs⟩

/-- An element of two cells of a row of the call's own is written. -/
theorem Ow.set_sl {e : TypeId} {base : Nat} {w : World} {g n cap : Nat} {xs : List Rs} (h : Ow 2 slotc e base w (.slice (some ⟨g, 0, none⟩) n cap) xs) (i : Nat) (hi : i < xs.length) (y : Rs) :
    Ow 2 slotc e base ((w.setCell ⟨g, i * 2, none⟩ (.int .i64 y.s)).setCell ⟨g, i * 2 + 1, none⟩ (.slice y.a y.n y.cap)) (.slice (some ⟨g, 0, none⟩) n cap) (xs.set i y) ∧
    w.grownBy ((w.setCell ⟨g, i * 2, none⟩ (.int .i64 y.s)).setCell ⟨g, i * 2 + 1, none⟩ (.slice y.a y.n y.cap)) (some g) := by
  obtain ⟨a', cap', hv, _, _⟩ := h.form slotc_len
  have hn : n = xs.length := by cases hv; rfl
  subst hn
  have h1 := World.ownsRow.stored h (i * 2) (.int .i64 y.s)
  have h2 := World.ownsRow.stored h1.1 (i * 2 + 1) (.slice y.a y.n y.cap)
  refine ⟨?_, h1.2.andThen h2.2 (fun j hj => .inr hj)⟩
  show World.ownsRow _ base e 2 _ (xs.set i y).length ((xs.set i y).flatMap slotc)
  rw [List.length_set]
  have : (xs.set i y).flatMap slotc = ((xs.flatMap slotc).set (i * 2) (.int .i64 y.s)).set (i * 2 + 1) (.slice y.a y.n y.cap) := by
    rw [flatMap_set slotc_len xs i _ hi]
    have hl : i * 2 + 2 ≤ (xs.flatMap slotc).length := by
      have := h.1
      rw [this]; omega
    apply List.ext_getElem?
    intro j
    simp only [List.getElem?_append, List.getElem?_take, List.getElem?_drop, List.getElem?_set, slotc, List.length_append, List.length_take, List.length_cons, List.length_nil, List.length_set]
    have e1 : min (i * 2) (xs.flatMap slotc).length = i * 2 := by omega
    have e1' : min (i * 2) (List.flatMap (fun x : Rs => [Value.int .i64 x.s, Value.slice x.a x.n x.cap]) xs).length = i * 2 := e1
    have hl' : i * 2 + 2 ≤ (List.flatMap (fun x : Rs => [Value.int .i64 x.s, Value.slice x.a x.n x.cap]) xs).length := hl
    have hsl : slotc = fun x : Rs => [Value.int .i64 x.s, Value.slice x.a x.n x.cap] := rfl
    rw [hsl] at *
    rw [e1']
    by_cases c1 : j < i * 2
    · rw [if_pos (by omega), if_pos c1, if_pos c1, if_neg (by omega), if_neg (by omega)]
    · by_cases c2 : j = i * 2
      · subst c2
        rw [if_pos (by omega), if_neg (by omega), if_neg (by omega), if_pos rfl, if_pos (by omega)]
        simp
      · by_cases c3 : j = i * 2 + 1
        · subst c3
          rw [if_pos (by omega), if_neg (by omega), if_pos rfl, if_pos (by omega)]
          simp
        · rw [if_neg (by omega), if_neg (by omega), if_neg (by omega)]
          congr 1
          omega
  rw [this]
  exact h2.1

theorem RIs_calls (a : Option Addr) (n cap : Nat) (i : Int) (w : World) (hn : n ≤ 8) : Calls Try.prog 72 #[.slice a n cap, .int .i64 i] w fun e w' => e = .returned (.bool (decide (0 ≤ i) && decide (i < n))) ∧ w' = w := by
  by_cases h1 : 0 ≤ i
  · by_cases h2 : i < (n : Int)
    · have e : (decide (0 ≤ i) && decide (i < n)) = true := by simp [h1, h2]
      rw [e]
      clear e
      go_enter Try.func72, Try.ntmps72
      go_wp2
      go_ret
      exact ⟨rfl, rfl⟩
    · have e : (decide (0 ≤ i) && decide (i < n)) = false := by simp [h2]
      rw [e]
      clear e
      go_enter Try.func72, Try.ntmps72
      go_wp2
      go_ret
      exact ⟨rfl, rfl⟩
  · have e : (decide (0 ≤ i) && decide (i < n)) = false := by simp [h1]
    rw [e]
    clear e
    go_enter Try.func72, Try.ntmps72
    go_wp2
    go_ret
    exact ⟨rfl, rfl⟩

theorem El_rs : El Try.prog 28 84 2 32 (.agg #[.int .i64 0, .slice none 0 0]) := El.of Try.underlying28 (by kernel_rfl) (by rfl) (by decide)

theorem Ow.form3 {α : Type} {k : Nat} {enc : α → List Value} {e : TypeId} {base : Nat} {w : World} {v : Value} {xs : List α} (h : Ow k enc e base w v xs) (hn : 0 < xs.length) : ∃ g cap, v = .slice (some ⟨g, 0, none⟩) xs.length cap ∧ base ≤ g := by
  rcases h.2 with ⟨_, h0⟩ | ⟨g, cap, cur, hv, hg, _⟩
  · omega
  · exact ⟨g, cap, hv, hg⟩

set_option maxRecDepth 100000 in
set_option maxHeartbeats 1000000 in
theorem RWith_calls16 (a : Option Addr) (n cap : Nat) (l : List Rs) (i : Nat) (y : Rs) (w : World) (hr : Rd 2 slotc w a n l) (hi : i < n) (hn : n ≤ 8) :
    Calls Try.prog 73 #[.slice a n cap, .int .i64 (i : Int), .agg #[.int .i64 y.s, .slice y.a y.n y.cap]] w fun e w' => ∃ v, e = .returned v ∧ Ow 2 slotc 84 w.heap.size w' v (l.set i y) ∧ Below w.heap.size w w' := by
  obtain ⟨ys, ya, yn, yc⟩ := y
  have hb1 : Below w.heap.size w (w.alloc (.cells #[.int .i64 ys, .slice ya yn yc] 84)) := (Below.refl _ w).alloc (Nat.le_refl _) _
  have hb2 : Below w.heap.size w ((w.alloc (.cells #[.int .i64 ys, .slice ya yn yc] 84)).alloc (.cells #[] 84)) := hb1.alloc (by simp) _
  have HR := hide (hr.below hb2)
  have HB := hide hb2
  have HO := hide (Ow_empty (k := 2) (enc := slotc) (e := 84) (w.alloc (.cells #[.int .i64 ys, .slice ya yn yc] 84)) (w.heap.size + 1) (w.heap.size + 1) (by simp) (by omega))
  have hl := hr.len
  obtain ⟨b, off, x, ha, _⟩ := hr.at_ i hi
  have hcap : a = none → cap = 0 := fun h => by rw [ha] at h; cases h
  have HSZ := hide (show w.heap.size + 1 ≤ ((w.alloc (.cells #[.int .i64 ys, .slice ya yn yc] 84)).alloc (.cells #[] 84)).heap.size by simp)
  have HZ1 := hide (show ((w.alloc (.cells #[.int .i64 ys, .slice ya yn yc] 84)).alloc (.cells #[] 84)).cell? ⟨w.heap.size, 0, none⟩ = some (.int .i64 ys) by simp)
  have HZ2 := hide (show ((w.alloc (.cells #[.int .i64 ys, .slice ya yn yc] 84)).alloc (.cells #[] 84)).cell? ⟨w.heap.size, 1, none⟩ = some (.slice ya yn yc) by simp)
  clear hr hb1 hb2 ha
  subst hl
  have hlp : 0 < l.length := by omega
  have hib : (i : Int) < (l.length : Int) := by omega
  have i0 : (0 : Int) ≤ (i : Int) := by omega
  go_enter Try.func73, Try.ntmps73
  go_wp2_with (at_builtin; refine wpList_apps El_rs slotc slotc_len slotc_one rfl _ _ rfl (w.heap.size + 1) _ [] l rfl HO.out a cap rfl HR.out hcap HSZ.out (by simp; omega) (by omega) ?_; intro v' w' h1 h2 h3 h4; have hz1 := (h3.cell (p := ⟨w.heap.size, 0, none⟩) (Nat.lt_succ_self _)).trans HZ1.out; have hz2 := (h3.cell (p := ⟨w.heap.size, 1, none⟩) (Nat.lt_succ_self _)).trans HZ2.out; rw [List.nil_append] at h1; obtain ⟨g', c', rfl, hgb⟩ := h1.form3 hlp; have hf1 := World.ownsRow.frozenAt h1 (i * 2); have hf2 := World.ownsRow.frozenAt h1 (i * 2 + 1); obtain ⟨u1, he1⟩ : ∃ u, w'.cell? ⟨g', i * 2, none⟩ = some u := (by rw [World.ownsRow.cellAt h1 (i * 2) (by omega)]; exact ⟨_, List.getElem?_eq_getElem (by rw [flatMap_len slotc_len]; omega)⟩); obtain ⟨u2, he2⟩ : ∃ u, w'.cell? ⟨g', i * 2 + 1, none⟩ = some u := (by rw [World.ownsRow.cellAt h1 (i * 2 + 1) (by omega)]; exact ⟨_, List.getElem?_eq_getElem (by rw [flatMap_len slotc_len]; omega)⟩); have H1 := hide h1; have H3 := hide h3; clear h1 h2 h3 h4)
  go_ret
  obtain ⟨q1, q2⟩ := H1.out.set_sl i hi ⟨ys, ya, yn, yc⟩
  refine ⟨_, rfl, q1.mono (by omega), ?_⟩
  exact (HB.out.trans (H3.out.mono (by omega))).grown q2 (by have := HB.out.size; have := H3.out.size; omega) (fun j hj => by cases hj; omega)

def TwoR (w0 w : World) (h : Nat) (st : List Sl) (b : Bool) (e : Ending) (w' : World) : Prop := ∃ v, e = .returned (.tuple #[v, .bool b]) ∧ RAt w0 w' h v st ∧ Below w.heap.size w w'

set_option maxHeartbeats 1000000 in
theorem RBegin_calls (w0 : World) (h : Nat) (v : Value) (st : List Sl) (i : Int) (w : World) (k : RAt w0 w h v st) (hh : h < w.heap.size) :
    Calls Try.prog 46 #[v, .int .i64 i] w (TwoR w0 w h (setS st i .building) (isS st i)) := by
  obtain ⟨a, cap, l, rfl, hr, hq, h8, hs⟩ := k
  have hb0 : Below w.heap.size w w := Below.refl _ _
  have HIs := hide (RIs_calls a st.length cap i)
  have hii : (decide (0 ≤ i) && decide (i < (st.length : Int))) = isS st i := rfl
  rw [hii] at HIs
  clear hii
  cases hi : isS st i with
  | false =>
    rw [hi] at HIs
    have HK := hide (show RAt w0 w h (.slice a st.length cap) (setS st i .building) from by
      have e : setS st i .building = st := by unfold setS; rw [hi]; rfl
      rw [e]; exact ⟨a, cap, l, rfl, hr, hq, h8, hs⟩)
    clear hr hq hs hi
    generalize setS st i .building = st' at HK ⊢
    obtain ⟨n, hn⟩ : ∃ n, st.length = n := ⟨_, rfl⟩
    rw [hn] at HIs HK h8 ⊢
    clear hn
    go_enter Try.func46, Try.ntmps46
    go_wp2_with (go_at_call 72; refine (HIs.out _ h8).mono ?_; rintro e w' ⟨rfl, rfl⟩)
    go_ret2
    exact ⟨_, rfl, HK.out, Below.refl _ _⟩
  | true =>
    rw [hi] at HIs
    obtain ⟨m, rfl, hm⟩ := isS_true hi
    have HW := hide (RWith_calls16 a st.length cap l m ⟨1, none, 0, 0⟩ w hr hm h8)
    have HK : Hid (∀ (v' : Value) (w' : World), Ow 2 slotc 84 w.heap.size w' v' (l.set m ⟨1, none, 0, 0⟩) → RAt w0 w' h v' (setS st (m : Int) .building)) := hide (fun v' w' ho => by
      have e : setS st (m : Int) .building = st.set m .building := by unfold setS; rw [hi]; simp
      rw [e]
      obtain ⟨a', cap', hv, hr', hb'⟩ := ho.form slotc_len
      have hl : (l.set m ⟨1, none, 0, 0⟩).length = (st.set m .building).length := by rw [List.length_set, List.length_set, ← hr.len]
      rw [hl] at hv hr'
      refine ⟨a', cap', _, hv, hr', fun q hq' _ => by have := (hb' q hq').1; omega, by rw [List.length_set]; exact h8, fun j t hj => ?_⟩
      by_cases e : m = j
      · subst e
        rw [List.getElem?_set_self hm] at hj
        cases hj
        exact ⟨_, List.getElem?_set_self (by rw [← hr.len]; exact hm), rfl⟩
      · rw [List.getElem?_set_ne e] at hj ⊢
        exact hs j t hj)
    clear hr hq hs hi
    generalize setS st (m : Int) .building = st' at HK ⊢
    obtain ⟨n, hn⟩ : ∃ n, st.length = n := ⟨_, rfl⟩
    rw [hn] at HIs HW h8 hm ⊢
    clear hn
    go_enter Try.func46, Try.ntmps46
    go_wp2_with (first | (go_at_call 72; refine (HIs.out _ h8).mono ?_; rintro e w' ⟨rfl, rfl⟩) | (go_at_call 73; refine HW.out.mono ?_; rintro e w' ⟨v', rfl, ho, hb⟩; have HO := hide (HK.out _ _ ho); have HB := hide hb; clear ho hb))
    go_ret2
    exact ⟨_, rfl, HO.out, HB.out⟩

set_option maxHeartbeats 1000000 in
theorem RSpoil_calls (w0 : World) (h : Nat) (v : Value) (st : List Sl) (i : Int) (w : World) (k : RAt w0 w h v st) (hh : h < w.heap.size) :
    Calls Try.prog 48 #[v, .int .i64 i] w (TwoR w0 w h (setS st i .spoilt) (isS st i)) := by
  obtain ⟨a, cap, l, rfl, hr, hq, h8, hs⟩ := k
  have hb0 : Below w.heap.size w w := Below.refl _ _
  have HIs := hide (RIs_calls a st.length cap i)
  have hii : (decide (0 ≤ i) && decide (i < (st.length : Int))) = isS st i := rfl
  rw [hii] at HIs
  clear hii
  cases hi : isS st i with
  | false =>
    rw [hi] at HIs
    have HK := hide (show RAt w0 w h (.slice a st.length cap) (setS st i .spoilt) from by
      have e : setS st i .spoilt = st := by unfold setS; rw [hi]; rfl
      rw [e]; exact ⟨a, cap, l, rfl, hr, hq, h8, hs⟩)
    clear hr hq hs hi
    generalize setS st i .spoilt = st' at HK ⊢
    obtain ⟨n, hn⟩ : ∃ n, st.length = n := ⟨_, rfl⟩
    rw [hn] at HIs HK h8 ⊢
    clear hn
    go_enter Try.func48, Try.ntmps48
    go_wp2_with (go_at_call 72; refine (HIs.out _ h8).mono ?_; rintro e w' ⟨rfl, rfl⟩)
    go_ret2
    exact ⟨_, rfl, HK.out, Below.refl _ _⟩
  | true =>
    rw [hi] at HIs
    obtain ⟨m, rfl, hm⟩ := isS_true hi
    have HW := hide (RWith_calls16 a st.length cap l m ⟨0, none, 0, 0⟩ w hr hm h8)
    have HK : Hid (∀ (v' : Value) (w' : World), Ow 2 slotc 84 w.heap.size w' v' (l.set m ⟨0, none, 0, 0⟩) → RAt w0 w' h v' (setS st (m : Int) .spoilt)) := hide (fun v' w' ho => by
      have e : setS st (m : Int) .spoilt = st.set m .spoilt := by unfold setS; rw [hi]; simp
      rw [e]
      obtain ⟨a', cap', hv, hr', hb'⟩ := ho.form slotc_len
      have hl : (l.set m ⟨0, none, 0, 0⟩).length = (st.set m .spoilt).length := by rw [List.length_set, List.length_set, ← hr.len]
      rw [hl] at hv hr'
      refine ⟨a', cap', _, hv, hr', fun q hq' _ => by have := (hb' q hq').1; omega, by rw [List.length_set]; exact h8, fun j t hj => ?_⟩
      by_cases e : m = j
      · subst e
        rw [List.getElem?_set_self hm] at hj
        cases hj
        exact ⟨_, List.getElem?_set_self (by rw [← hr.len]; exact hm), rfl⟩
      · rw [List.getElem?_set_ne e] at hj ⊢
        exact hs j t hj)
    clear hr hq hs hi
    generalize setS st (m : Int) .spoilt = st' at HK ⊢
    obtain ⟨n, hn⟩ : ∃ n, st.length = n := ⟨_, rfl⟩
    rw [hn] at HIs HW h8 hm ⊢
    clear hn
    go_enter Try.func48, Try.ntmps48
    go_wp2_with (first | (go_at_call 72; refine (HIs.out _ h8).mono ?_; rintro e w' ⟨rfl, rfl⟩) | (go_at_call 73; refine HW.out.mono ?_; rintro e w' ⟨v', rfl, ho, hb⟩; have HO := hide (HK.out _ _ ho); have HB := hide hb; clear ho hb))
    go_ret2
    exact ⟨_, rfl, HO.out, HB.out⟩
end Go.Proofs.Ytiaifphidcfddaa
