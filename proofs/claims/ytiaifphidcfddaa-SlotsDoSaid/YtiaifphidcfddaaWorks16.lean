/-
  Layer 16's works.
-/
import Derived.Test.YtiaifphidcfddaaSlots4
set_option linter.unusedVariables false
set_option linter.unusedSimpArgs false
namespace Go.Proofs.Ytiaifphidcfddaa
open Go.RowKit Go.Shelf

/-- Where a hash goes to is a point's backend. -/
theorem succP_mem {l : List Pt} (h : Int) (hl : l ≠ []) : ∃ x ∈ l, succP l h = x.2 := by
  unfold succP
  cases hf : l.find? (fun x => decide (h ≤ x.1)) with
  | some x => exact ⟨x, List.mem_of_find?_eq_some hf, rfl⟩
  | none =>
    cases l with
    | nil => exact absurd rfl hl
    | cons x xs => exact ⟨x, List.mem_cons_self, rfl⟩
theorem mem_ofP {xs : List Bk} {x : Pt} (h : x ∈ ofP xs) : ∃ b ∈ xs, x.2 = b.1 := by
  unfold ofP srt at h
  rw [List.mem_mergeSort] at h
  unfold ptsU ptsB at h
  rw [List.mem_flatMap] at h
  obtain ⟨b, hb, hx⟩ := h
  rw [List.mem_map] at hx
  obtain ⟨n, _, rfl⟩ := hx
  exact ⟨b, hb, rfl⟩
theorem ofP_ne {xs : List Bk} (hv : Vp xs) (h : xs ≠ []) : ofP xs ≠ [] := by
  intro e
  have hlen : (ptsU xs).length = 0 := by rw [← srt_len]; show (ofP xs).length = 0; rw [e]; rfl
  cases xs with
  | nil => exact h rfl
  | cons b bs =>
    obtain ⟨i, m, rfl, _, _, hm, _⟩ := hv 0 b rfl
    have e2 : (ptsU (((i : Int), (m : Int)) :: bs)).length = 8 * m + (ptsU bs).length := by simp [ptsU, ptsB]
    rw [e2] at hlen; omega
theorem pick_mem {xs : List Bk} (hv : Vp xs) (h : Int) (hx : xs ≠ []) : ∃ b ∈ xs, succP (ofP xs) h = b.1 := by
  obtain ⟨x, hm, he⟩ := succP_mem h (ofP_ne hv hx)
  obtain ⟨b, hb, h2⟩ := mem_ofP hm
  exact ⟨b, hb, by rw [he, h2]⟩
theorem pick_nil (h : Int) : succP (ofP []) h = -1 := by simp [ofP, ptsU, srt, succP, headP]

abbrev p71 : List Bk := [(7, 1)]
theorem check71 : check p71 = 0 := by decide
theorem pick71 (h : Int) : succP (ofP p71) h = 7 := by
  obtain ⟨b, hb, he⟩ := pick_mem (vp_of_check check71) h (by simp)
  rw [List.mem_singleton] at hb
  subst hb
  exact he

theorem below_grown {B : Nat} {w w1 w2 : World} {h : Nat} (hb : Below B w w1) (hB : B ≤ w1.heap.size) (hg : w1.grownBy w2 (some h)) (hh : B ≤ h) : Below B w w2 := hb.trans ((Below.refl B w1).grown hg hB (fun j hj => by cases hj; exact hh))

theorem Rd.grown {α : Type} {k : Nat} {enc : α → List Value} {w W : World} {a : Option Addr} {n h : Nat} {xs : List α} (r : Rd k enc w a n xs) (hg : w.grownBy W (some h)) (hne : ∀ q, a = some q → 0 < n → q.block ≠ h) : Rd k enc W a n xs :=
  r.kept hg.size (fun p hp h0 => hg.block _ (r.2.2.2 p hp h0).2.1 (fun e => hne p hp h0 (Option.some.inj e)))

set_option maxRecDepth 100000 in
set_option maxHeartbeats 8000000 in
theorem works16_calls (w : World) : Calls Try.prog 14 #[] w fun e w' => e = .returned (.bool true) ∧ Below w.heap.size w w' := by
  go_enter Try.func14, Try.ntmps14
  go_wp2_with fail
  refine (New_calls 1 w).mono ?_
  rintro e w1 ⟨rfl, hs1, hb1⟩
  have S1 := hide (show SlAt w1 (w.heap.size + 1) w.heap.size [.spoilt] from hs1)
  have B1 := hide hb1
  clear hs1 hb1
  generalize hh : w.heap.size = h at S1 B1 ⊢
  go_wp2_with fail
  have hb2 : Below h w (w1.alloc (.cells #[.int .i64 7, .int .i64 1] 56)) := B1.out.alloc (by rw [← hh]; exact B1.out.size) _
  have hlt1 : h < w1.heap.size := by have := S1.out.2.2.2; obtain ⟨cur, h4, _⟩ := this; exact (Array.getElem?_eq_some_iff.1 h4).1
  have R2 := hide (Rd_fresh bkc_len w1 #[.int .i64 7, .int .i64 1] 56 1 p71 rfl rfl (by omega) w1.heap.size rfl)
  have S2 := hide (S1.out.below ((Below.refl w1.heap.size w1).alloc (Nat.le_refl _) (.cells #[.int .i64 7, .int .i64 1] 56)))
  have B2 := hide hb2
  clear hb2
  generalize hB : w1.heap.size = b at hlt1 R2 ⊢
  have hbh : ∀ q : Addr, some (⟨b, 0, none⟩ : Addr) = some q → 0 < 1 → q.block ≠ h := fun q hq _ => by cases hq; simp only; omega
  have HBH := hide hbh
  have hz2 : h ≤ (w1.alloc (.cells #[.int .i64 7, .int .i64 1] 56)).heap.size := by simp; omega
  have HZ2 := hide hz2
  have hwf : Wf p71 := fun j x hx => by
    cases j with
    | zero => simp at hx; subst hx; exact ⟨⟨by decide, by decide⟩, ⟨by decide, by decide⟩⟩
    | succ j => simp at hx
  have HWF := hide hwf
  clear hbh hz2 hwf hB hlt1
  generalize w1.alloc (.cells #[.int .i64 7, .int .i64 1] 56) = w2 at R2 S2 B2 HZ2 ⊢
  -- Fill: not yet
  refine (Fill_calls _ _ _ 0 _ _ _ p71 _ S2.out R2.out HWF.out (by omega)).mono ?_
  rintro e w3 ⟨he, hs, hg⟩
  have f1 : fillS [.spoilt] 0 p71 = false := by decide
  have f2 : fillT [.spoilt] 0 p71 = [.spoilt] := by unfold fillT; rw [f1]; rfl
  rw [f1] at he
  rw [f2] at hs
  subst he
  have S3 := hide hs
  have R3 := hide (R2.out.grown hg HBH.out)
  have HZ3 := hide (Nat.le_trans HZ2.out hg.size)
  have B3 := hide (below_grown B2.out HZ2.out hg (Nat.le_refl _))
  clear f1 f2 hs hg
  go_wp2_with fail
  -- Begin
  refine (Begin_calls _ _ _ 0 _ S3.out).mono ?_
  rintro e w4 ⟨he, hs, hg⟩
  rw [show isS [.spoilt] 0 = true from rfl] at he
  subst he
  have S4 := hide (show SlAt w4 (h + 1) h [.building] from hs)
  have R4 := hide (R3.out.grown hg HBH.out)
  have HZ4 := hide (Nat.le_trans HZ3.out hg.size)
  have B4 := hide (below_grown B3.out HZ3.out hg (Nat.le_refl _))
  clear hs hg
  go_wp2_with fail
  -- Fill
  refine (Fill_calls _ _ _ 0 _ _ _ p71 _ S4.out R4.out HWF.out (by omega)).mono ?_
  rintro e w5 ⟨he, hs, hg⟩
  have f1 : fillS [.building] 0 p71 = true := by decide
  have f2 : fillT [.building] 0 p71 = [.ready p71] := by unfold fillT; rw [f1]; rfl
  rw [f1] at he
  rw [f2] at hs
  subst he
  have S5 := hide hs
  have HZ5 := hide (Nat.le_trans HZ4.out hg.size)
  have B5 := hide (below_grown B4.out HZ4.out hg (Nat.le_refl _))
  clear f1 f2 hs hg
  have hp3 : pickS [.ready p71] 0 3 = (7, true) := by show (succP (ofP p71) 3, true) = (7, true); rw [pick71]
  go_wp2_with fail
  refine (Pick_calls _ _ _ 0 3 _ S5.out).mono ?_
  rintro e w6 ⟨he, hb⟩
  rw [hp3] at he
  subst he
  have S6 := hide (S5.out.below hb)
  have HZ6 := hide (Nat.le_trans HZ5.out hb.size)
  have B6 := hide (below_then B5.out HZ5.out hb)
  clear hp3 hb
  go_wp2_with fail
  refine (Has_calls _ _ _ 0 7 _ S6.out).mono ?_
  rintro e w7 ⟨he, hb⟩
  rw [show hasS [.ready p71] 0 7 = (true, true) by decide] at he
  subst he
  have S7 := hide (S6.out.below hb)
  have HZ7 := hide (Nat.le_trans HZ6.out hb.size)
  have B7 := hide (below_then B6.out HZ6.out hb)
  clear hb
  go_wp2_with fail
  refine (Size_calls _ _ _ 0 _ S7.out).mono ?_
  rintro e w8 ⟨he, hb⟩
  rw [show sizeS [.ready p71] 0 = (1, true) from rfl] at he
  subst he
  have S8 := hide (S7.out.below hb)
  have HZ8 := hide (Nat.le_trans HZ7.out hb.size)
  have B8 := hide (below_then B7.out HZ7.out hb)
  clear hb
  go_wp2_with fail
  refine (Spoil_calls _ _ _ 0 _ S8.out).mono ?_
  rintro e w9 ⟨he, hs, hg⟩
  rw [show isS [.ready p71] 0 = true from rfl] at he
  subst he
  have S9 := hide (show SlAt w9 (h + 1) h [.spoilt] from hs)
  have HZ9 := hide (Nat.le_trans HZ8.out hg.size)
  have B9 := hide (below_grown B8.out HZ8.out hg (Nat.le_refl _))
  clear hs hg
  go_wp2_with fail
  refine (Pick_calls _ _ _ 0 3 _ S9.out).mono ?_
  rintro e w10 ⟨he, hb⟩
  rw [show pickS [.spoilt] 0 3 = (0, false) from rfl] at he
  subst he
  have S10 := hide (S9.out.below hb)
  have HZ10 := hide (Nat.le_trans HZ9.out hb.size)
  have B10 := hide (below_then B9.out HZ9.out hb)
  clear hb
  go_wp2_with fail
  refine (Begin_calls _ _ _ 1 _ S10.out).mono ?_
  rintro e w11 ⟨he, hs, hg⟩
  rw [show isS [.spoilt] 1 = false from rfl] at he
  subst he
  have S11 := hide (show SlAt w11 (h + 1) h [.spoilt] from hs)
  have HZ11 := hide (Nat.le_trans HZ10.out hg.size)
  have B11 := hide (below_grown B10.out HZ10.out hg (Nat.le_refl _))
  clear hs hg
  go_wp2_with fail
  refine (Spoil_calls _ _ _ (-1) _ S11.out).mono ?_
  rintro e w12 ⟨he, hs, hg⟩
  rw [show isS [.spoilt] (-1) = false from rfl] at he
  subst he
  have B12 := hide (below_grown B11.out HZ11.out hg (Nat.le_refl _))
  clear hs hg
  go_wp2
  go_ret
  exact ⟨rfl, by rw [hh]; exact B12.out⟩
end Go.Proofs.Ytiaifphidcfddaa
