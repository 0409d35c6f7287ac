/-
  Contracts: pool.With, slices.DeleteFunc at Backend, pool.Without.
-/
import Derived.Test.YtiaifphidcfddaaPool3
set_option linter.unusedVariables false
set_option linter.unusedSimpArgs false
namespace Go.Proofs.Ytiaifphidcfddaa
open Go.RowKit Go.Shelf Go.Maps

/-- An element of two cells of a row of the call's own is written. -/
theorem Ow.set_bk {e : TypeId} {base : Nat} {w : World} {g n cap : Nat} {xs : List Bk} (h : Ow 2 bkc e base w (.slice (some ⟨g, 0, none⟩) n cap) xs) (i : Nat) (hi : i < xs.length) (y1 y2 : Int) :
    Ow 2 bkc e base ((w.setCell ⟨g, i * 2, none⟩ (.int .i64 y1)).setCell ⟨g, i * 2 + 1, none⟩ (.int .i64 y2)) (.slice (some ⟨g, 0, none⟩) n cap) (xs.set i (y1, y2)) ∧
    w.grownBy ((w.setCell ⟨g, i * 2, none⟩ (.int .i64 y1)).setCell ⟨g, i * 2 + 1, none⟩ (.int .i64 y2)) (some g) := by
  obtain ⟨a', cap', hv, _, _⟩ := h.form bkc_len
  have hn : n = xs.length := by cases hv; rfl
  subst hn
  have h1 := World.ownsRow.stored h (i * 2) (.int .i64 y1)
  have h2 := World.ownsRow.stored h1.1 (i * 2 + 1) (.int .i64 y2)
  refine ⟨?_, h1.2.andThen h2.2 (fun j hj => .inr hj)⟩
  show World.ownsRow _ base e 2 _ (xs.set i (y1, y2)).length ((xs.set i (y1, y2)).flatMap bkc)
  rw [List.length_set]
  have : (xs.set i (y1, y2)).flatMap bkc = ((xs.flatMap bkc).set (i * 2) (.int .i64 y1)).set (i * 2 + 1) (.int .i64 y2) := by
    rw [flatMap_set bkc_len xs i _ hi]
    have hl : i * 2 + 2 ≤ (xs.flatMap bkc).length := by
      have := h.1
      rw [this]; omega
    apply List.ext_getElem?
    intro j
    simp only [List.getElem?_append, List.getElem?_take, List.getElem?_drop, List.getElem?_set, bkc, List.length_append, List.length_take, List.length_cons, List.length_nil, List.length_set]
    have e1 : min (i * 2) (xs.flatMap bkc).length = i * 2 := by omega
    rw [e1]
    by_cases c1 : j < i * 2
    · rw [if_pos (by omega), if_pos c1, if_pos c1, if_neg (by omega), if_neg (by omega)]
    · by_cases c2 : j = i * 2
      · subst c2
        rw [if_pos (by omega), if_neg (by omega), if_neg (by omega), if_pos rfl, if_pos (by omega)]
        simp
      · by_cases c3 : j = i * 2 + 1
        · subst c3
          rw [if_pos (by omega), if_neg (by omega), if_pos rfl, if_pos (by omega)]
          simp
        · rw [if_neg (by omega), if_neg (by omega), if_neg (by omega)]
          congr 1
          omega
  rw [this]
  exact h2.1

def withB (xs : List Bk) (b : Bk) : List Bk := match xs.findIdx? (fun x => x.1 == b.1) with | some i => xs.set i b | none => xs ++ [b]

set_option maxHeartbeats 1000000 in
theorem With_calls (a : Option Addr) (n cap : Nat) (xs : List Bk) (b1 b2 : Int) (w : World) (hr : Rd 2 bkc w a n xs) (hbig : n < 4294967295) :
    Calls Try.prog 36 #[.slice a n cap, .agg #[.int .i64 b1, .int .i64 b2]] w fun e w' => ∃ v, e = .returned v ∧ Ow 2 bkc 56 w.heap.size w' v (withB xs (b1, b2)) ∧ Below w.heap.size w w' := by
  have hb0 : Below w.heap.size w (w.alloc (.cells #[.int .i64 b1, .int .i64 b2] 56)) := (Below.refl _ _).alloc (Nat.le_refl _) _
  have HC := hide (Clone_calls a n cap xs _ (hr.below hb0) (by omega))
  have HL := hide hr.len
  clear hr
  go_enter Try.func36, Try.ntmps36
  go_wp2_with fail
  refine HC.out.mono ?_
  rintro e w1 ⟨v, rfl, ho1, hb1, _⟩
  obtain ⟨a1, cap1, hv, hr1, hbase⟩ := ho1.form bkc_len
  subst hv
  have hB1 := hb0.trans (hb1.mono (by simp))
  have hbs := hb1.size
  rw [World.size_alloc] at hbs
  have hz1 : w1.cell? ⟨w.heap.size, 0, none⟩ = some (.int .i64 b1) := (hb1.cell (p := ⟨w.heap.size, 0, none⟩) (by simp)).trans (by simp)
  have hz2 : w1.cell? ⟨w.heap.size, 1, none⟩ = some (.int .i64 b2) := (hb1.cell (p := ⟨w.heap.size, 1, none⟩) (by simp)).trans (by simp)
  have HR1 := hide hr1
  have HO1 := hide ho1
  have HB1 := hide hB1
  clear hr1 ho1 hb1 hb0 HC hB1
  go_wp2_with fail
  refine (Find_calls a1 _ cap1 xs b1 w1 HR1.out).mono ?_
  rintro e w2 ⟨rfl, hb2⟩
  have hz3 := (hb2.cell (p := ⟨w.heap.size, 0, none⟩) (by simp; omega)).trans hz1
  have hz4 := (hb2.cell (p := ⟨w.heap.size, 1, none⟩) (by simp; omega)).trans hz2
  have HR2 := hide (HR1.out.below hb2)
  have HO2 := hide ((HO1.out.below hb2).mono (base' := w.heap.size) (by simp))
  have HB2 := hide (below_then HB1.out (by omega) hb2)
  have hbs2 := hb2.size
  clear hb2 hz1 hz2 HR1 HO1 HB1
  have hff : find xs b1 = idx (fun x : Bk => x.1 == b1) xs := rfl
  unfold idx at hff
  cases hidx : xs.findIdx? (fun x : Bk => x.1 == b1) with
  | some i =>
    rw [hidx] at hff
    rw [hff]
    have hi : i < xs.length := (List.findIdx?_eq_some_iff_getElem.1 hidx).1
    have HX := hide (show withB xs (b1, b2) = xs.set i (b1, b2) by simp [withB, hidx])
    clear hidx hff
    obtain ⟨g, off, x1, x2, ha, hx, hg, hc1, hc2⟩ := HR2.out.at_bk i hi
    have hoff := (hbase _ ha).2.1
    have hgb := (hbase _ ha).1
    simp only at hoff hgb
    subst hoff
    subst ha
    rw [Nat.zero_add] at hc1 hc2
    have hf1 := World.ownsRow.frozenAt HO2.out (i * 2)
    have hf2 := World.ownsRow.frozenAt HO2.out (i * 2 + 1)
    have hib : (i : Int) < (xs.length : Int) := by omega
    have hxl : (xs.length : Int) ≤ 9223372036854775807 := HR2.out.le
    clear hx hbase
    go_wp2
    go_ret
    obtain ⟨ho3, hg3⟩ := HO2.out.set_bk i hi b1 b2
    exact ⟨_, rfl, by rw [HX.out]; exact ho3, HB2.out.grown hg3 (by omega) (fun k hk => by cases hk; simp at hgb; omega)⟩
  | none =>
    rw [hidx] at hff
    rw [hff]
    have HX := hide (show withB xs (b1, b2) = xs ++ [(b1, b2)] by simp [withB, hidx])
    clear hidx hff hbase
    go_wp2_with (at_builtin; refine wpList_app1 El_bk bkc bkc_len bkc_one rfl _ _ rfl w.heap.size (.slice a1 xs.length cap1) xs (b1, b2) _ rfl rfl HO2.out rfl (by omega) (by have := HL.out; omega) (by omega) ?_; intro v' w' h1 h2 h3; have H1 := hide h1; have H3 := hide h3; clear h1 h2 h3)
    go_ret
    exact ⟨_, rfl, by rw [HX.out]; exact H1.out, HB2.out.trans H3.out⟩
end Go.Proofs.Ytiaifphidcfddaa
