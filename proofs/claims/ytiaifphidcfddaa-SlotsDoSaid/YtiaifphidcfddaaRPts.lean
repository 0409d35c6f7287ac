/-
  The reference's points: Less, merge.
-/
import Derived.Test.YtiaifphidcfddaaPts
import Derived.Test.YtiaifphidcfddaaQuiet
import Derived.Test.YtiaifphidcfddaaGrow
set_option linter.unusedVariables false
set_option linter.unusedSimpArgs false
namespace Go.Proofs.Ytiaifphidcfddaa
open Go.RowKit Go.Shelf

theorem RLess_calls (x y : Pt) (w : World) : Calls Try.prog 130 #[.agg #[.int .u64 x.1, .int .i64 x.2], .agg #[.int .u64 y.1, .int .i64 y.2]] w fun e w' => e = .returned (.bool (ltP x y)) ∧ Below w.heap.size w w' := by
  obtain ⟨x1, x2⟩ := x
  obtain ⟨y1, y2⟩ := y
  have hb0 : Below w.heap.size w ((w.alloc (.cells #[.int .u64 x1, .int .i64 x2] 124)).alloc (.cells #[.int .u64 y1, .int .i64 y2] 124)) := ((Below.refl _ _).alloc (Nat.le_refl _) _).alloc (by simp) _
  have HB0 := hide hb0
  clear hb0
  by_cases h1 : x1 < y1
  · have e : ltP (x1, x2) (y1, y2) = true := by simp [ltP, h1]
    rw [e]
    clear e
    go_enter Try.func130, Try.ntmps130
    go_wp2
    go_ret
    exact ⟨rfl, HB0.out⟩
  · by_cases h2 : x1 = y1
    · subst h2
      by_cases h3 : x2 < y2
      · have e : ltP (x1, x2) (x1, y2) = true := by simp [ltP, h3]
        rw [e]
        clear e
        go_enter Try.func130, Try.ntmps130
        go_wp2
        go_ret
        exact ⟨rfl, HB0.out⟩
      · have e : ltP (x1, x2) (x1, y2) = false := by simp [ltP, h3]
        rw [e]
        clear e
        go_enter Try.func130, Try.ntmps130
        go_wp2
        go_ret
        exact ⟨rfl, HB0.out⟩
    · have e : ltP (x1, x2) (y1, y2) = false := by simp [ltP, h1, h2]
      rw [e]
      clear e
      have h2' : (x1 == y1) = false := by simpa using h2
      go_enter Try.func130, Try.ntmps130
      go_wp2
      go_ret
      exact ⟨rfl, HB0.out⟩

theorem Rd.at_pt {w : World} {a : Option Addr} {n : Nat} {xs : List Pt} (h : Rd 2 ptc w a n xs) (j : Nat) (hj : j < n) :
    ∃ b off x1 x2, a = some ⟨b, off, none⟩ ∧ xs[j]? = some (x1, x2) ∧ b < w.heap.size ∧ w.cell? ⟨b, off + j * 2, none⟩ = some (.int .u64 x1) ∧ w.cell? ⟨b, off + j * 2 + 1, none⟩ = some (.int .i64 x2) := by
  obtain ⟨b, off, ⟨x1, x2⟩, ha, hx, hb, hc⟩ := h.at_ j hj
  exact ⟨b, off, x1, x2, ha, hx, hb, hc 0 _ rfl, hc 1 _ rfl⟩

theorem El_po : El Try.prog 77 124 2 16 (.agg #[.int .u64 0, .int .i64 0]) := El.of Try.underlying77 (by kernel_rfl) (by rfl) (by decide)

theorem merge_l (xs ys : List Pt) (i k : Nat) (x : Pt) (hx : xs[i]? = some x) (h : ys.length ≤ k ∨ ∃ y, ys[k]? = some y ∧ ltP y x = false) : List.merge (xs.drop i) (ys.drop k) leP = x :: List.merge (xs.drop (i + 1)) (ys.drop k) leP := by
  obtain ⟨hi, rfl⟩ := List.getElem?_eq_some_iff.1 hx
  rw [List.drop_eq_getElem_cons hi]
  rcases h with h | ⟨y, hy, hl⟩
  · rw [List.drop_of_length_le h]
    simp
  · obtain ⟨hk, rfl⟩ := List.getElem?_eq_some_iff.1 hy
    rw [List.drop_eq_getElem_cons hk]
    have : leP xs[i] ys[k] = true := by unfold leP; rw [hl]; rfl
    rw [List.cons_merge_cons_pos _ _ _ this]
theorem merge_r (xs ys : List Pt) (i k : Nat) (y : Pt) (hy : ys[k]? = some y) (h : xs.length ≤ i ∨ ∃ x, xs[i]? = some x ∧ ltP y x = true) : List.merge (xs.drop i) (ys.drop k) leP = y :: List.merge (xs.drop i) (ys.drop (k + 1)) leP := by
  obtain ⟨hk, rfl⟩ := List.getElem?_eq_some_iff.1 hy
  rw [List.drop_eq_getElem_cons hk]
  rcases h with h | ⟨x, hx, hl⟩
  · rw [List.drop_of_length_le h]
    simp
  · obtain ⟨hi, rfl⟩ := List.getElem?_eq_some_iff.1 hx
    rw [List.drop_eq_getElem_cons hi]
    have : ¬ leP xs[i] ys[k] = true := by unfold leP; rw [hl]; simp
    rw [List.cons_merge_cons_neg _ _ _ this]

attribute [local go_sem ↓] Go.wp_at_zero Go.wp_at_succ

set_option maxRecDepth 100000 in
set_option maxHeartbeats 4000000 in
theorem RMerge_calls (a b : Option Addr) (n m cap1 cap2 : Nat) (xs ys : List Pt) (w : World) (hr : Rd 2 ptc w a n xs) (hr2 : Rd 2 ptc w b m ys) (hbig : n + m < 4294967296) :
    Calls Try.prog 115 #[.slice a n cap1, .slice b m cap2] w fun e w' => ∃ v, e = .returned v ∧ Ow 2 ptc 124 w.heap.size w' v (List.merge xs ys leP) ∧ Below w.heap.size w w' := by
  have HL := hide hr.len
  have HL2 := hide hr2.len
  have HR := hide hr
  have HR2 := hide hr2
  clear hr hr2
  go_enter Try.func115, Try.ntmps115
  go_wp2
  go_loopg [5, 6, 7] (n + m) (fun gg s5 s6 s7 wr => ∃ (i k : Nat) (L : List Pt), i ≤ n ∧ k ≤ m ∧ (n - i) + (m - k) ≤ gg ∧ s6 = .int .i64 (i : Int) ∧ s7 = .int .i64 (k : Int) ∧ Hid (Ow 2 ptc 124 w.heap.size wr s5 L) ∧ Hid (L ++ List.merge (xs.drop i) (ys.drop k) leP = List.merge xs ys leP) ∧ L.length = i + k ∧ Hid (Below w.heap.size w wr))
  case atStart => exact ⟨0, 0, [], by omega, by omega, by omega, rfl, rfl, Ow.nil, (hide (by simp)), rfl, Below.refl _ w⟩
  case round =>
    obtain ⟨i, k, L, hi, hk, hg, rfl, rfl, OW, HM, hLl, BW⟩ := hrel
    by_cases h1 : i < n
    · obtain ⟨b1, o1, x1, x2, rfl, hx, hbl1, hc1, hc2⟩ := HR.out.at_pt i h1
      have hz1 : (i : Int) < (n : Int) := by omega
      have HX := hide hx
      clear hx
      have ha1 : wr.cell? ⟨b1, o1 + i * 2, none⟩ = some (.int .u64 x1) := (BW.out.cell (p := ⟨b1, o1 + i * 2, none⟩) hbl1).trans hc1
      have ha2 : wr.cell? ⟨b1, o1 + i * 2 + 1, none⟩ = some (.int .i64 x2) := (BW.out.cell (p := ⟨b1, o1 + i * 2 + 1, none⟩) hbl1).trans hc2
      clear hc1 hc2
      by_cases h2 : k < m
      · obtain ⟨b2, o2, y1, y2, rfl, hy, hbl2, hd1, hd2⟩ := HR2.out.at_pt k h2
        have hz2 : (k : Int) < (m : Int) := by omega
        have HY := hide hy
        clear hy
        have ha3 : wr.cell? ⟨b2, o2 + k * 2, none⟩ = some (.int .u64 y1) := (BW.out.cell (p := ⟨b2, o2 + k * 2, none⟩) hbl2).trans hd1
        have ha4 : wr.cell? ⟨b2, o2 + k * 2 + 1, none⟩ = some (.int .i64 y2) := (BW.out.cell (p := ⟨b2, o2 + k * 2 + 1, none⟩) hbl2).trans hd2
        clear hd1 hd2
        have i0 : (0 : Int) ≤ (i : Int) := by omega
        have k0 : (0 : Int) ≤ (k : Int) := by omega
        have hless := hide (RLess_calls (y1, y2) (x1, x2))
        obtain ⟨r, hrr⟩ : ∃ r, ltP (y1, y2) (x1, x2) = r := ⟨_, rfl⟩
        rw [hrr] at hless
        have HRR := hide hrr
        clear hrr
        go_wp2
        have q1 := fun p : BlwOf wr => blw_cell ha1 p
        have q2 := fun p : BlwOf wr => blw_cell ha2 p
        have q3 := fun p : BlwOf wr => blw_cell ha3 p
        have q4 := fun p : BlwOf wr => blw_cell ha4 p
        have hd1 : decide (m ≤ k) = false := by simpa using h2
        have hd2 : decide (i < n) = true := by simpa using h1
        refine wp_region_blw (by kernel_rfl) (by kernel_rfl) ?_
        repeat (go_big_quiet_step ((go_at_call 130; exact blw (hless.out _))))
        refine wpQuiet_nil ?_
        intro w2 hw2
        have hb2 := blw_out hw2
        clear hw2 q1 q2 q3 q4 hd1 hd2
        have hg1 := (bcell hb2).1
        have ha1' : w2.cell? ⟨b1, o1 + i * 2, none⟩ = some (.int .u64 x1) := cell_later hb2 ha1
        have ha2' : w2.cell? ⟨b1, o1 + i * 2 + 1, none⟩ = some (.int .i64 x2) := cell_later hb2 ha2
        have ha3' : w2.cell? ⟨b2, o2 + k * 2, none⟩ = some (.int .u64 y1) := cell_later hb2 ha3
        have ha4' : w2.cell? ⟨b2, o2 + k * 2 + 1, none⟩ = some (.int .i64 y2) := cell_later hb2 ha4
        have OW2 := hide (OW.out.below hb2)
        have BW2 := hide (below_then BW.out BW.out.size hb2)
        clear ha1 ha2 ha3 ha4 hg1 hb2
        have hL1 : L.length < 4294967296 := by omega
        cases r with
        | true =>
          have HM2 := hide (merge_r xs ys i k (y1, y2) HY.out (.inr ⟨_, HX.out, HRR.out⟩))
          go_wp2_with (at_builtin; refine wpList_app1 El_po ptc ptc_len ptc_one rfl _ _ rfl w.heap.size u5 L (y1, y2) _ rfl rfl OW2.out rfl BW2.out.size hL1 (by omega) ?_; intro v' w3 h1 h2 h3; have H1 := hide h1; have H3 := hide h3; clear h1 h2 h3)
          go_roundg ((n - i) + (m - (k + 1)))
          case measure => omega
          case rel => exact ⟨i, k + 1, L ++ [(y1, y2)], by omega, by omega, by omega, rfl, by go_num, H1, (hide (by rw [← HM.out, HM2.out]; simp)), by simp; omega, (hide (BW2.out.trans H3.out))⟩
        | false =>
          have HM2 := hide (merge_l xs ys i k (x1, x2) HX.out (.inr ⟨_, HY.out, HRR.out⟩))
          go_wp2_with (at_builtin; refine wpList_app1 El_po ptc ptc_len ptc_one rfl _ _ rfl w.heap.size u5 L (x1, x2) _ rfl rfl OW2.out rfl BW2.out.size hL1 (by omega) ?_; intro v' w3 h1 h2 h3; have H1 := hide h1; have H3 := hide h3; clear h1 h2 h3)
          go_roundg ((n - (i + 1)) + (m - k))
          case measure => omega
          case rel => exact ⟨i + 1, k, L ++ [(x1, x2)], by omega, by omega, by omega, by go_num, rfl, H1, (hide (by rw [← HM.out, HM2.out]; simp)), by simp; omega, (hide (BW2.out.trans H3.out))⟩
      · have hz2 : ¬ (k : Int) < (m : Int) := by omega
        have hL1 : L.length < 4294967296 := by omega
        have HM2 := hide (merge_l xs ys i k (x1, x2) HX.out (.inl (by have := HL2.out; omega)))
        have hd1 : decide (m ≤ k) = true := by simpa using h2
        go_wp2
        refine wp_region_blw (by kernel_rfl) (by kernel_rfl) ?_
        repeat (go_big_quiet_step (fail))
        refine wpQuiet_nil ?_
        intro w2 hw2
        have hb2 := blw_out hw2
        clear hw2 hd1
        have ha1' : w2.cell? ⟨b1, o1 + i * 2, none⟩ = some (.int .u64 x1) := cell_later hb2 ha1
        have ha2' : w2.cell? ⟨b1, o1 + i * 2 + 1, none⟩ = some (.int .i64 x2) := cell_later hb2 ha2
        have OW2 := hide (OW.out.below hb2)
        have BW2 := hide (below_then BW.out BW.out.size hb2)
        clear ha1 ha2 hb2
        go_wp2_with (at_builtin; refine wpList_app1 El_po ptc ptc_len ptc_one rfl _ _ rfl w.heap.size u5 L (x1, x2) _ rfl rfl OW2.out rfl BW2.out.size hL1 (by omega) ?_; intro v' w3 h1 h2 h3; have H1 := hide h1; have H3 := hide h3; clear h1 h2 h3)
        go_roundg ((n - (i + 1)) + (m - k))
        case measure => omega
        case rel => exact ⟨i + 1, k, L ++ [(x1, x2)], by omega, by omega, by omega, by go_num, rfl, H1, (hide (by rw [← HM.out, HM2.out]; simp)), by simp; omega, (hide (BW2.out.trans H3.out))⟩
    · have hz1 : ¬ (i : Int) < (n : Int) := by omega
      have hL1 : L.length < 4294967296 := by omega
      by_cases h2 : k < m
      · obtain ⟨b2, o2, y1, y2, rfl, hy, hbl2, hd1, hd2⟩ := HR2.out.at_pt k h2
        have hz2 : (k : Int) < (m : Int) := by omega
        have HY := hide hy
        clear hy
        have ha3 : wr.cell? ⟨b2, o2 + k * 2, none⟩ = some (.int .u64 y1) := (BW.out.cell (p := ⟨b2, o2 + k * 2, none⟩) hbl2).trans hd1
        have ha4 : wr.cell? ⟨b2, o2 + k * 2 + 1, none⟩ = some (.int .i64 y2) := (BW.out.cell (p := ⟨b2, o2 + k * 2 + 1, none⟩) hbl2).trans hd2
        clear hd1 hd2
        have HM2 := hide (merge_r xs ys i k (y1, y2) HY.out (.inl (by have := HL.out; omega)))
        have hd1 : decide (m ≤ k) = false := by simpa using h2
        have hd2 : decide (i < n) = false := by simpa using h1
        go_wp2
        refine wp_region_blw (by kernel_rfl) (by kernel_rfl) ?_
        repeat (go_big_quiet_step (fail))
        refine wpQuiet_nil ?_
        intro w2 hw2
        have hb2 := blw_out hw2
        clear hw2 hd1 hd2
        have ha3' : w2.cell? ⟨b2, o2 + k * 2, none⟩ = some (.int .u64 y1) := cell_later hb2 ha3
        have ha4' : w2.cell? ⟨b2, o2 + k * 2 + 1, none⟩ = some (.int .i64 y2) := cell_later hb2 ha4
        have OW2 := hide (OW.out.below hb2)
        have BW2 := hide (below_then BW.out BW.out.size hb2)
        clear ha3 ha4 hb2
        go_wp2_with (at_builtin; refine wpList_app1 El_po ptc ptc_len ptc_one rfl _ _ rfl w.heap.size u5 L (y1, y2) _ rfl rfl OW2.out rfl BW2.out.size hL1 (by omega) ?_; intro v' w3 h1 h2 h3; have H1 := hide h1; have H3 := hide h3; clear h1 h2 h3)
        go_roundg ((n - i) + (m - (k + 1)))
        case measure => omega
        case rel => exact ⟨i, k + 1, L ++ [(y1, y2)], by omega, by omega, by omega, rfl, by go_num, H1, (hide (by rw [← HM.out, HM2.out]; simp)), by simp; omega, (hide (BW2.out.trans H3.out))⟩
      · have hz2 : ¬ (k : Int) < (m : Int) := by omega
        have HF := hide (show L = List.merge xs ys leP by have := HM.out; rw [List.drop_of_length_le (by have := HL.out; omega), List.drop_of_length_le (by have := HL2.out; omega)] at this; simpa using this)
        go_wp2
        go_ret
        exact ⟨_, rfl, by rw [← HF.out]; exact OW.out, BW.out⟩
end Go.Proofs.Ytiaifphidcfddaa
