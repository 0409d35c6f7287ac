/-
  PoolTells' walk.
-/
import Derived.Test.YtiaifphidcfddaaRGone
import Derived.Test.YtiaifphidcfddaaSorted
set_option linter.unusedVariables false
set_option linter.unusedSimpArgs false
namespace Go.Proofs.Ytiaifphidcfddaa
open Go.RowKit Go.Shelf

/-- The stable sort by number. -/
def stab (xs : List Bk) : List Bk := xs.foldl putB []
theorem stab_facts (xs : List Bk) : Srt (stab xs) ∧ StEq xs (stab xs) := by
  have key : ∀ (xs out done : List Bk), Srt out → StEq done out → Srt (xs.foldl putB out) ∧ StEq (done ++ xs) (xs.foldl putB out) := by
    intro xs
    induction xs with
    | nil => intro out done h1 h2; exact ⟨h1, by simpa using h2⟩
    | cons x xs ih =>
      intro out done h1 h2
      obtain ⟨g1, g2⟩ := putB_facts x h1
      have := ih (putB out x) (done ++ [x]) g1 ((h2.append (StEq.refl [x])).trans g2)
      simpa using this
  have h := key xs [] [] List.Pairwise.nil (StEq.refl _)
  rw [List.nil_append] at h
  exact h

def PostTl (a : Option Addr) (n cap : Nat) (b1 b2 id : Int) (B6 : Nat) (ss ws zs : List Bk) : Nat → Value → World → Prop
  | 0, v, w => v = .slice a n cap
  | 1, v, w => ∃ a cap, v = .slice a ss.length cap ∧ Rd 2 bkc w a ss.length ss
  | 2, v, w => v = .slice a n cap
  | 3, v, w => ∃ a cap, v = .slice a ss.length cap ∧ Rd 2 bkc w a ss.length ss
  | 4, v, w => v = .bool true
  | 5, v, w => v = .bool true
  | 6, v, w => v = .slice a n cap
  | 7, v, w => v = .agg #[.int .i64 b1, .int .i64 b2]
  | 8, v, w => ∃ a cap, v = .slice a ws.length cap ∧ Rd 2 bkc w a ws.length ws
  | 9, v, w => v = .slice a n cap
  | 10, v, w => v = .agg #[.int .i64 b1, .int .i64 b2]
  | 11, v, w => ∃ a cap, v = .slice a ws.length cap ∧ Rd 2 bkc w a ws.length ws
  | 12, v, w => v = .bool true
  | 13, v, w => v = .bool true
  | 14, v, w => v = .bool true
  | 15, v, w => v = .slice a n cap
  | 16, v, w => v = .int .i64 id
  | 17, v, w => ∃ a cap, v = .slice a zs.length cap ∧ Rd 2 bkc w a zs.length zs
  | 18, v, w => v = .slice a n cap
  | 19, v, w => v = .int .i64 id
  | 20, v, w => ∃ a cap, v = .slice a zs.length cap ∧ Rd 2 bkc w a zs.length zs
  | 21, v, w => v = .bool true
  | 22, v, w => v = .bool true
  | 23, v, w => v = .bool true
  | _, _, _ => True
theorem PostTl_st (a : Option Addr) (n cap : Nat) (b1 b2 id : Int) (B6 : Nat) (ss ws zs : List Bk) (i : Nat) (v : Value) (w w' : World) (hP0 : PostTl a n cap b1 b2 id B6 ss ws zs i v w) (hb : Below w.heap.size w w') : PostTl a n cap b1 b2 id B6 ss ws zs i v w' := by
  match i with
  | 0 => exact hP0
  | 1 => obtain ⟨aP, cP, h1, h2⟩ := hP0; exact ⟨aP, cP, h1, h2.below hb⟩
  | 2 => exact hP0
  | 3 => obtain ⟨aP, cP, h1, h2⟩ := hP0; exact ⟨aP, cP, h1, h2.below hb⟩
  | 4 => exact hP0
  | 5 => exact hP0
  | 6 => exact hP0
  | 7 => exact hP0
  | 8 => obtain ⟨aP, cP, h1, h2⟩ := hP0; exact ⟨aP, cP, h1, h2.below hb⟩
  | 9 => exact hP0
  | 10 => exact hP0
  | 11 => obtain ⟨aP, cP, h1, h2⟩ := hP0; exact ⟨aP, cP, h1, h2.below hb⟩
  | 12 => exact hP0
  | 13 => exact hP0
  | 14 => exact hP0
  | 15 => exact hP0
  | 16 => exact hP0
  | 17 => obtain ⟨aP, cP, h1, h2⟩ := hP0; exact ⟨aP, cP, h1, h2.below hb⟩
  | 18 => exact hP0
  | 19 => exact hP0
  | 20 => obtain ⟨aP, cP, h1, h2⟩ := hP0; exact ⟨aP, cP, h1, h2.below hb⟩
  | 21 => exact hP0
  | 22 => exact hP0
  | 23 => exact hP0
  | _ + 24 => trivial

theorem PoolTells_far (a b : Option Addr) (n cap m cap2 : Nat) (b1 b2 id : Int) (w : World) (hn : n ≤ maxLen) (hm : m ≤ maxLen) (hbig : ¬ (n ≤ 60 ∧ m ≤ 60)) :
    Calls Try.prog 8 #[.slice a n cap, .slice b m cap2, .agg #[.int .i64 b1, .int .i64 b2], .int .i64 id] w fun e w' => e = .returned (.bool true) ∧ Below w.heap.size w w' := by
  have h1 : (60 : Int) < (n : Int) ∨ (¬ (60 : Int) < (n : Int) ∧ (60 : Int) < (m : Int)) := by omega
  unfold maxLen at hn hm
  have hb0 : Below w.heap.size w (w.alloc (.cells #[.int .i64 b1, .int .i64 b2] 56)) := (Below.refl _ w).alloc (Nat.le_refl _) _
  have HC0 := hide hb0
  clear hb0
  rcases h1 with h1 | ⟨h1, h2⟩
  all_goals
    go_enter Try.func8, Try.ntmps8
    go_wp2_with (go_at_call 32; refine (works_calls _).mono ?_; rintro e w' ⟨rfl, hb⟩)
    go_ret
    exact ⟨rfl, below_then HC0.out HC0.out.size hb⟩

set_option maxRecDepth 100000 in
set_option maxHeartbeats 8000000 in
theorem PoolTells_near (a b : Option Addr) (n cap m cap2 : Nat) (b1 b2 id : Int) (xs ys : List Bk) (w : World) (hr : Rd 2 bkc w a n xs) (hr2 : Rd 2 bkc w b m ys) (hw : Wf xs) (hw2 : Wf ys) (hbig : n ≤ 60) (hbig2 : m ≤ 60) :
    Calls Try.prog 8 #[.slice a n cap, .slice b m cap2, .agg #[.int .i64 b1, .int .i64 b2], .int .i64 id] w fun e w' => e = .returned (.bool true) ∧ Below w.heap.size w w' := by
  have hn : ¬ (60 : Int) < (n : Int) := by omega
  have hm : ¬ (60 : Int) < (m : Int) := by omega
  have hn2 := hr.le
  have hm2 := hr2.le
  obtain ⟨ss, hss⟩ : ∃ ss, Srt ss ∧ StEq xs ss := ⟨_, stab_facts xs⟩
  obtain ⟨ws, hws⟩ : ∃ ws, withB xs (b1, b2) = ws := ⟨_, rfl⟩
  obtain ⟨zs, hzs⟩ : ∃ zs, without xs id = zs := ⟨_, rfl⟩
  obtain ⟨cx, hcx⟩ : ∃ cx, check xs = cx := ⟨_, rfl⟩
  obtain ⟨fx, hfx⟩ : ∃ fx, find xs id = fx := ⟨_, rfl⟩
  obtain ⟨sq, hsq⟩ : ∃ sq : Bool, decide (xs = ys) = sq := ⟨_, rfl⟩
  have HSS := hide hss
  have HWS := hide hws
  have HZS := hide hzs
  have HCX := hide hcx
  have HFX := hide hfx
  have HSQ := hide hsq
  have HR := hide hr
  have HR2 := hide hr2
  have HW := hide hw
  have HW2 := hide hw2
  have hb0 : Below w.heap.size w (w.alloc (.cells #[.int .i64 b1, .int .i64 b2] 56)) := (Below.refl _ w).alloc (Nat.le_refl _) _
  have HC0 := hide hb0
  clear hr hr2 hw hw2 hb0 hss hws hzs hcx hfx hsq
  go_enter Try.func8, Try.ntmps8
  go_wp2_with (go_at_call 32; refine (works_calls _).mono ?_; rintro e W1 ⟨rfl, hb⟩; have f41 := hide (cell_later (p := ⟨w.heap.size, 0, none⟩) (v := .int .i64 b1) hb (by simp)); have f42 := hide (cell_later (p := ⟨w.heap.size, 1, none⟩) (v := .int .i64 b2) hb (by simp)); have HC := hide (below_then HC0.out HC0.out.size hb); clear hb)
  replace HR := hide (HR.out.below HC.out)
  replace HR2 := hide (HR2.out.below HC.out)
  refine wp_region_grow 88 [25, 26, 27, 28, 29, 30, 31, 32, 33, 34, 35, 36, 37, 38, 39, 40, 41, 42, 43, 44, 45, 46, 47, 10] (Below W1.heap.size W1) (PostTl a n cap b1 b2 id w.heap.size ss ws zs) (by kernel_rfl) (by kernel_rfl) rfl (by kernel_rfl) (by kernel_rfl) (Below.refl _ _).drew (PostTl_st a n cap b1 b2 id w.heap.size ss ws zs) ⟨⟨⟨⟨⟨⟨⟨⟨⟨⟨⟨⟨⟨⟨⟨⟨⟨⟨⟨⟨⟨⟨⟨⟨trivial, ?o0⟩, ?o1⟩, ?o2⟩, ?o3⟩, ?o4⟩, ?o5⟩, ?o6⟩, ?o7⟩, ?o8⟩, ?o9⟩, ?o10⟩, ?o11⟩, ?o12⟩, ?o13⟩, ?o14⟩, ?o15⟩, ?o16⟩, ?o17⟩, ?o18⟩, ?o19⟩, ?o20⟩, ?o21⟩, ?o22⟩, ?o23⟩ ?_
  case o0 =>
    intro g wr hB hk hp K hK
    have p0 : g 0 = .slice a n cap := Option.some.inj (hk 0 (by decide) (by kernel_rfl))
    have HB := hide hB
    clear hB hk hp
    have e0 := actOf_get 88 g ([] : List Deferred) 0 (by omega) p0
    refine wpOp_free rfl rfl ?_
    go_simp
    exact hK _ _ (Below.refl _ _) HB.out (by first | rfl | simp)
  case o1 =>
    intro g wr hB hk hp K hK
    have p25 : g 25 = .slice a n cap := hp 0 (by kernel_rfl)
    have HB := hide hB
    clear hB hk hp
    have e25 := actOf_get 88 g ([] : List Deferred) 25 (by omega) p25
    refine wpOp_free rfl rfl ?_
    go_simp
    go_at_call 34
    refine (Sorted_calls _ _ _ _ _ (HR.out.below HB.out) (by omega)).mono ?_
    rintro e w' ⟨v, s9, rfl, ho, hs, hq, hb⟩
    obtain rfl := StEq.unique hs HSS.out.1 (hq.symm.trans HSS.out.2)
    obtain ⟨a2, cap2', hv, hr, _⟩ := ho.form bkc_len
    exact hK _ _ hb (below_then HB.out HB.out.size hb) ⟨a2, cap2', hv, hr⟩
  case o2 =>
    intro g wr hB hk hp K hK
    have p0 : g 0 = .slice a n cap := Option.some.inj (hk 0 (by decide) (by kernel_rfl))
    have HB := hide hB
    clear hB hk hp
    have e0 := actOf_get 88 g ([] : List Deferred) 0 (by omega) p0
    refine wpOp_free rfl rfl ?_
    go_simp
    exact hK _ _ (Below.refl _ _) HB.out (by first | rfl | simp)
  case o3 =>
    intro g wr hB hk hp K hK
    have p27 : g 27 = .slice a n cap := hp 2 (by kernel_rfl)
    have HB := hide hB
    clear hB hk hp
    have e27 := actOf_get 88 g ([] : List Deferred) 27 (by omega) p27
    refine wpOp_free rfl rfl ?_
    go_simp
    go_at_call 35
    refine (RSorted_calls _ _ _ _ _ (HR.out.below HB.out) (by omega)).mono ?_
    rintro e w' ⟨v, s9, rfl, ho, hs, hq, hb⟩
    obtain rfl := StEq.unique hs HSS.out.1 (hq.symm.trans HSS.out.2)
    obtain ⟨a2, cap2', hv, hr, _⟩ := ho.form bkc_len
    exact hK _ _ hb (below_then HB.out HB.out.size hb) ⟨a2, cap2', hv, hr⟩
  case o4 =>
    intro g wr hB hk hp K hK
    obtain ⟨a26, cap26, p26, r26⟩ : ∃ a cap, g 26 = .slice a ss.length cap ∧ Rd 2 bkc wr a ss.length ss := hp 1 (by kernel_rfl)
    have R26 := hide r26
    clear r26
    obtain ⟨a28, cap28, p28, r28⟩ : ∃ a cap, g 28 = .slice a ss.length cap ∧ Rd 2 bkc wr a ss.length ss := hp 3 (by kernel_rfl)
    have R28 := hide r28
    clear r28
    have HB := hide hB
    clear hB hk hp
    have e26 := actOf_get 88 g ([] : List Deferred) 26 (by omega) p26
    have e28 := actOf_get 88 g ([] : List Deferred) 28 (by omega) p28
    refine wpOp_free rfl rfl ?_
    go_simp
    go_at_call 33
    refine (RSame_calls _ _ _ _ _ _ _ _ _ R26.out R28.out).mono ?_
    rintro e w' ⟨rfl, hb⟩
    exact hK _ _ hb (below_then HB.out HB.out.size hb) (by rw [decide_eq_true rfl]; rfl)
  case o5 =>
    intro g wr hB hk hp K hK
    have p29 : g 29 = .bool true := hp 4 (by kernel_rfl)
    have HB := hide hB
    clear hB hk hp
    have e29 := actOf_get 88 g ([] : List Deferred) 29 (by omega) p29
    refine wpOp_free rfl rfl ?_
    go_simp
    exact hK _ _ (Below.refl _ _) HB.out (by first | rfl | simp)
  case o6 =>
    intro g wr hB hk hp K hK
    have p0 : g 0 = .slice a n cap := Option.some.inj (hk 0 (by decide) (by kernel_rfl))
    have pg : g 30 = .bool true := hp 5 (by kernel_rfl)
    have HB := hide hB
    clear hB hk hp
    have e0 := actOf_get 88 g ([] : List Deferred) 0 (by omega) p0
    refine wpOp_let rfl rfl (by kernel_rfl) (by omega) pg ?_
    clear pg
    go_simp
    exact hK _ _ (Below.refl _ _) HB.out (by first | rfl | simp)
  case o7 =>
    intro g wr hB hk hp K hK
    have p6 : g 6 = .pointer (some ⟨w.heap.size, 0, none⟩) := Option.some.inj (hk 6 (by decide) (by kernel_rfl))
    have pg : g 30 = .bool true := hp 5 (by kernel_rfl)
    have HB := hide hB
    clear hB hk hp
    have lc0 := cell_later HB.out f41.out
    have lc1 := cell_later HB.out f42.out
    have e6 := actOf_get 88 g ([] : List Deferred) 6 (by omega) p6
    refine wpOp_let rfl rfl (by kernel_rfl) (by omega) pg ?_
    clear pg
    go_simp
    exact hK _ _ (Below.refl _ _) HB.out (by first | rfl | simp)
  case o8 =>
    intro g wr hB hk hp K hK
    have p31 : g 31 = .slice a n cap := hp 6 (by kernel_rfl)
    have p32 : g 32 = .agg #[.int .i64 b1, .int .i64 b2] := hp 7 (by kernel_rfl)
    have pg : g 30 = .bool true := hp 5 (by kernel_rfl)
    have HB := hide hB
    clear hB hk hp
    have e31 := actOf_get 88 g ([] : List Deferred) 31 (by omega) p31
    have e32 := actOf_get 88 g ([] : List Deferred) 32 (by omega) p32
    refine wpOp_let rfl rfl (by kernel_rfl) (by omega) pg ?_
    clear pg
    go_simp
    go_at_call 36
    refine (With_calls _ _ _ _ _ _ _ (HR.out.below HB.out) (by omega)).mono ?_
    rintro e w' ⟨v, rfl, ho, hb⟩
    rw [HWS.out] at ho
    obtain ⟨a2, cap2', hv, hr, _⟩ := ho.form bkc_len
    exact hK _ _ hb (below_then HB.out HB.out.size hb) ⟨a2, cap2', hv, hr⟩
  case o9 =>
    intro g wr hB hk hp K hK
    have p0 : g 0 = .slice a n cap := Option.some.inj (hk 0 (by decide) (by kernel_rfl))
    have pg : g 30 = .bool true := hp 5 (by kernel_rfl)
    have HB := hide hB
    clear hB hk hp
    have e0 := actOf_get 88 g ([] : List Deferred) 0 (by omega) p0
    refine wpOp_let rfl rfl (by kernel_rfl) (by omega) pg ?_
    clear pg
    go_simp
    exact hK _ _ (Below.refl _ _) HB.out (by first | rfl | simp)
  case o10 =>
    intro g wr hB hk hp K hK
    have p6 : g 6 = .pointer (some ⟨w.heap.size, 0, none⟩) := Option.some.inj (hk 6 (by decide) (by kernel_rfl))
    have pg : g 30 = .bool true := hp 5 (by kernel_rfl)
    have HB := hide hB
    clear hB hk hp
    have lc0 := cell_later HB.out f41.out
    have lc1 := cell_later HB.out f42.out
    have e6 := actOf_get 88 g ([] : List Deferred) 6 (by omega) p6
    refine wpOp_let rfl rfl (by kernel_rfl) (by omega) pg ?_
    clear pg
    go_simp
    exact hK _ _ (Below.refl _ _) HB.out (by first | rfl | simp)
  case o11 =>
    intro g wr hB hk hp K hK
    have p34 : g 34 = .slice a n cap := hp 9 (by kernel_rfl)
    have p35 : g 35 = .agg #[.int .i64 b1, .int .i64 b2] := hp 10 (by kernel_rfl)
    have pg : g 30 = .bool true := hp 5 (by kernel_rfl)
    have HB := hide hB
    clear hB hk hp
    have e34 := actOf_get 88 g ([] : List Deferred) 34 (by omega) p34
    have e35 := actOf_get 88 g ([] : List Deferred) 35 (by omega) p35
    refine wpOp_let rfl rfl (by kernel_rfl) (by omega) pg ?_
    clear pg
    go_simp
    go_at_call 37
    refine (RWith_calls _ _ _ _ _ _ _ (HR.out.below HB.out) (by omega)).mono ?_
    rintro e w' ⟨v, rfl, ho, hb⟩
    rw [HWS.out] at ho
    obtain ⟨a2, cap2', hv, hr, _⟩ := ho.form bkc_len
    exact hK _ _ hb (below_then HB.out HB.out.size hb) ⟨a2, cap2', hv, hr⟩
  case o12 =>
    intro g wr hB hk hp K hK
    obtain ⟨a33, cap33, p33, r33⟩ : ∃ a cap, g 33 = .slice a ws.length cap ∧ Rd 2 bkc wr a ws.length ws := hp 8 (by kernel_rfl)
    have R33 := hide r33
    clear r33
    obtain ⟨a36, cap36, p36, r36⟩ : ∃ a cap, g 36 = .slice a ws.length cap ∧ Rd 2 bkc wr a ws.length ws := hp 11 (by kernel_rfl)
    have R36 := hide r36
    clear r36
    have pg : g 30 = .bool true := hp 5 (by kernel_rfl)
    have HB := hide hB
    clear hB hk hp
    have e33 := actOf_get 88 g ([] : List Deferred) 33 (by omega) p33
    have e36 := actOf_get 88 g ([] : List Deferred) 36 (by omega) p36
    refine wpOp_let rfl rfl (by kernel_rfl) (by omega) pg ?_
    clear pg
    go_simp
    go_at_call 33
    refine (RSame_calls _ _ _ _ _ _ _ _ _ R33.out R36.out).mono ?_
    rintro e w' ⟨rfl, hb⟩
    exact hK _ _ hb (below_then HB.out HB.out.size hb) (by rw [decide_eq_true rfl]; rfl)
  case o13 =>
    intro g wr hB hk hp K hK
    have p30 : g 30 = .bool true := hp 5 (by kernel_rfl)
    have p37 : g 37 = .bool true := hp 12 (by kernel_rfl)
    have HB := hide hB
    clear hB hk hp
    have e30 := actOf_get 88 g ([] : List Deferred) 30 (by omega) p30
    have e37 := actOf_get 88 g ([] : List Deferred) 37 (by omega) p37
    refine wpOp_free rfl rfl ?_
    go_simp
    exact hK _ _ (Below.refl _ _) HB.out (by first | rfl | simp)
  case o14 =>
    intro g wr hB hk hp K hK
    have p38 : g 38 = .bool true := hp 13 (by kernel_rfl)
    have HB := hide hB
    clear hB hk hp
    have e38 := actOf_get 88 g ([] : List Deferred) 38 (by omega) p38
    refine wpOp_free rfl rfl ?_
    go_simp
    exact hK _ _ (Below.refl _ _) HB.out (by first | rfl | simp)
  case o15 =>
    intro g wr hB hk hp K hK
    have p0 : g 0 = .slice a n cap := Option.some.inj (hk 0 (by decide) (by kernel_rfl))
    have pg : g 39 = .bool true := hp 14 (by kernel_rfl)
    have HB := hide hB
    clear hB hk hp
    have e0 := actOf_get 88 g ([] : List Deferred) 0 (by omega) p0
    refine wpOp_let rfl rfl (by kernel_rfl) (by omega) pg ?_
    clear pg
    go_simp
    exact hK _ _ (Below.refl _ _) HB.out (by first | rfl | simp)
  case o16 =>
    intro g wr hB hk hp K hK
    have p3 : g 3 = .int .i64 id := Option.some.inj (hk 3 (by decide) (by kernel_rfl))
    have pg : g 39 = .bool true := hp 14 (by kernel_rfl)
    have HB := hide hB
    clear hB hk hp
    have e3 := actOf_get 88 g ([] : List Deferred) 3 (by omega) p3
    refine wpOp_let rfl rfl (by kernel_rfl) (by omega) pg ?_
    clear pg
    go_simp
    exact hK _ _ (Below.refl _ _) HB.out (by first | rfl | simp)
  case o17 =>
    intro g wr hB hk hp K hK
    have p40 : g 40 = .slice a n cap := hp 15 (by kernel_rfl)
    have p41 : g 41 = .int .i64 id := hp 16 (by kernel_rfl)
    have pg : g 39 = .bool true := hp 14 (by kernel_rfl)
    have HB := hide hB
    clear hB hk hp
    have e40 := actOf_get 88 g ([] : List Deferred) 40 (by omega) p40
    have e41 := actOf_get 88 g ([] : List Deferred) 41 (by omega) p41
    refine wpOp_let rfl rfl (by kernel_rfl) (by omega) pg ?_
    clear pg
    go_simp
    go_at_call 38
    refine (Without_calls _ _ _ _ _ _ (HR.out.below HB.out) (by omega)).mono ?_
    rintro e w' ⟨v, rfl, ho, hb⟩
    rw [HZS.out] at ho
    obtain ⟨a2, cap2', hv, hr, _⟩ := ho.form bkc_len
    exact hK _ _ hb (below_then HB.out HB.out.size hb) ⟨a2, cap2', hv, hr⟩
  case o18 =>
    intro g wr hB hk hp K hK
    have p0 : g 0 = .slice a n cap := Option.some.inj (hk 0 (by decide) (by kernel_rfl))
    have pg : g 39 = .bool true := hp 14 (by kernel_rfl)
    have HB := hide hB
    clear hB hk hp
    have e0 := actOf_get 88 g ([] : List Deferred) 0 (by omega) p0
    refine wpOp_let rfl rfl (by kernel_rfl) (by omega) pg ?_
    clear pg
    go_simp
    exact hK _ _ (Below.refl _ _) HB.out (by first | rfl | simp)
  case o19 =>
    intro g wr hB hk hp K hK
    have p3 : g 3 = .int .i64 id := Option.some.inj (hk 3 (by decide) (by kernel_rfl))
    have pg : g 39 = .bool true := hp 14 (by kernel_rfl)
    have HB := hide hB
    clear hB hk hp
    have e3 := actOf_get 88 g ([] : List Deferred) 3 (by omega) p3
    refine wpOp_let rfl rfl (by kernel_rfl) (by omega) pg ?_
    clear pg
    go_simp
    exact hK _ _ (Below.refl _ _) HB.out (by first | rfl | simp)
  case o20 =>
    intro g wr hB hk hp K hK
    have p43 : g 43 = .slice a n cap := hp 18 (by kernel_rfl)
    have p44 : g 44 = .int .i64 id := hp 19 (by kernel_rfl)
    have pg : g 39 = .bool true := hp 14 (by kernel_rfl)
    have HB := hide hB
    clear hB hk hp
    have e43 := actOf_get 88 g ([] : List Deferred) 43 (by omega) p43
    have e44 := actOf_get 88 g ([] : List Deferred) 44 (by omega) p44
    refine wpOp_let rfl rfl (by kernel_rfl) (by omega) pg ?_
    clear pg
    go_simp
    go_at_call 39
    refine (RWithout_calls _ _ _ _ _ _ (HR.out.below HB.out) (by omega)).mono ?_
    rintro e w' ⟨v, rfl, ho, hb⟩
    rw [HZS.out] at ho
    obtain ⟨a2, cap2', hv, hr, _⟩ := ho.form bkc_len
    exact hK _ _ hb (below_then HB.out HB.out.size hb) ⟨a2, cap2', hv, hr⟩
  case o21 =>
    intro g wr hB hk hp K hK
    obtain ⟨a42, cap42, p42, r42⟩ : ∃ a cap, g 42 = .slice a zs.length cap ∧ Rd 2 bkc wr a zs.length zs := hp 17 (by kernel_rfl)
    have R42 := hide r42
    clear r42
    obtain ⟨a45, cap45, p45, r45⟩ : ∃ a cap, g 45 = .slice a zs.length cap ∧ Rd 2 bkc wr a zs.length zs := hp 20 (by kernel_rfl)
    have R45 := hide r45
    clear r45
    have pg : g 39 = .bool true := hp 14 (by kernel_rfl)
    have HB := hide hB
    clear hB hk hp
    have e42 := actOf_get 88 g ([] : List Deferred) 42 (by omega) p42
    have e45 := actOf_get 88 g ([] : List Deferred) 45 (by omega) p45
    refine wpOp_let rfl rfl (by kernel_rfl) (by omega) pg ?_
    clear pg
    go_simp
    go_at_call 33
    refine (RSame_calls _ _ _ _ _ _ _ _ _ R42.out R45.out).mono ?_
    rintro e w' ⟨rfl, hb⟩
    exact hK _ _ hb (below_then HB.out HB.out.size hb) (by rw [decide_eq_true rfl]; rfl)
  case o22 =>
    intro g wr hB hk hp K hK
    have p39 : g 39 = .bool true := hp 14 (by kernel_rfl)
    have p46 : g 46 = .bool true := hp 21 (by kernel_rfl)
    have HB := hide hB
    clear hB hk hp
    have e39 := actOf_get 88 g ([] : List Deferred) 39 (by omega) p39
    have e46 := actOf_get 88 g ([] : List Deferred) 46 (by omega) p46
    refine wpOp_free rfl rfl ?_
    go_simp
    exact hK _ _ (Below.refl _ _) HB.out (by first | rfl | simp)
  case o23 =>
    intro g wr hB hk hp K hK
    have p47 : g 47 = .bool true := hp 22 (by kernel_rfl)
    have HB := hide hB
    clear hB hk hp
    have e47 := actOf_get 88 g ([] : List Deferred) 47 (by omega) p47
    refine wpOp_free rfl rfl ?_
    go_simp
    exact hK _ _ (Below.refl _ _) HB.out (by first | rfl | simp)
  intro g wr hB hP
  have hp2 : g 10 = .bool true := hP 23 (by decide)
  have HB := hide hB
  clear hP hB
  simp only [putAll, Act.put, List.setIfInBounds_toArray, List.set_cons_zero, List.set_cons_succ, hp2]
  clear hp2
  replace HR := hide (HR.out.below HB.out)
  replace HR2 := hide (HR2.out.below HB.out)
  replace HC := hide (below_then HC.out HC.out.size HB.out)
  clear HB f41 f42
  go_wp2_with (first
    | (go_at_call 41; refine (Gone_calls sortInts _ _ _ _ _ _ xs ys _ HR.out HR2.out HW.out HW2.out (by omega)).mono ?_; rintro e w2 ⟨v, r, rfl, ho, hg, hb⟩; obtain ⟨a8, cap8, hv, hr8, _⟩ := ho.form i64c_len; subst hv; have HG := hide hg; have HV := hide hr8; replace HR := hide (HR.out.below hb); replace HR2 := hide (HR2.out.below hb); replace HC := hide (below_then HC.out HC.out.size hb); clear ho hr8 hb hg)
    | (go_at_call 42; refine (RGone_calls _ _ _ _ _ _ xs ys _ HR.out HR2.out (by omega)).mono ?_; rintro e w3 ⟨v, r2, rfl, ho, hg, hb⟩; obtain rfl := GoneIs.unique HG.out hg; obtain ⟨a9, cap9, hv, hr9, _⟩ := ho.form i64c_len; subst hv; have HV9 := hide hr9; replace HV := hide (HV.out.below hb); replace HR := hide (HR.out.below hb); replace HR2 := hide (HR2.out.below hb); replace HC := hide (below_then HC.out HC.out.size hb); clear ho hr9 hb hg)
    | (go_at_call 40; refine (RInts_calls _ _ _ _ _ _ _ _ _ HV.out HV9.out).mono ?_; rintro e w4 ⟨rfl, hb⟩; rw [decide_eq_true rfl]; replace HR := hide (HR.out.below hb); replace HR2 := hide (HR2.out.below hb); replace HC := hide (below_then HC.out HC.out.size hb); clear hb)
    | (go_at_call 33; refine (RSame_calls _ _ _ _ _ _ _ _ _ HR.out HR2.out).mono ?_; rintro e w5 ⟨rfl, hb⟩; rw [HSQ.out]; replace HR := hide (HR.out.below hb); replace HR2 := hide (HR2.out.below hb); replace HC := hide (below_then HC.out HC.out.size hb); clear hb)
    | (go_at_call 45; refine (Same_calls _ _ _ _ _ _ _ _ _ HR.out HR2.out).mono ?_; rintro e w5 ⟨rfl, hb⟩; rw [HSQ.out]; replace HR := hide (HR.out.below hb); replace HR2 := hide (HR2.out.below hb); replace HC := hide (below_then HC.out HC.out.size hb); clear hb)
    | (go_at_call 26; refine (Check_calls _ _ _ _ _ HR.out HW.out (by omega)).mono ?_; rintro e w6 ⟨rfl, hb⟩; rw [HCX.out]; replace HR := hide (HR.out.below hb); replace HR2 := hide (HR2.out.below hb); replace HC := hide (below_then HC.out HC.out.size hb); clear hb)
    | (go_at_call 43; refine (RCheck_calls _ _ _ _ _ HR.out).mono ?_; rintro e w6 ⟨rfl, hb⟩; rw [HCX.out]; replace HR := hide (HR.out.below hb); replace HR2 := hide (HR2.out.below hb); replace HC := hide (below_then HC.out HC.out.size hb); clear hb)
    | (go_at_call 29; refine (Find_calls _ _ _ _ _ _ HR.out).mono ?_; rintro e w7 ⟨rfl, hb⟩; rw [HFX.out]; replace HR := hide (HR.out.below hb); replace HR2 := hide (HR2.out.below hb); replace HC := hide (below_then HC.out HC.out.size hb); clear hb)
    | (go_at_call 44; refine (RFind_calls _ _ _ _ _ _ HR.out).mono ?_; rintro e w7 ⟨rfl, hb⟩; rw [HFX.out]; replace HR := hide (HR.out.below hb); replace HR2 := hide (HR2.out.below hb); replace HC := hide (below_then HC.out HC.out.size hb); clear hb))
  go_ret
  exact ⟨rfl, HC.out⟩

theorem PoolTells_all (a b : Option Addr) (n cap m cap2 : Nat) (x : Bk) (id : Int) (xs ys : List Bk) (w : World) (hr : Rd 2 bkc w a n xs) (hr2 : Rd 2 bkc w b m ys) (hw : Wf xs) (hw2 : Wf ys) :
    Calls Try.prog 8 #[.slice a n cap, .slice b m cap2, .agg #[.int .i64 x.1, .int .i64 x.2], .int .i64 id] w fun e w' => e = .returned (.bool true) ∧ Below w.heap.size w w' := by
  by_cases h : n ≤ 60 ∧ m ≤ 60
  · exact PoolTells_near a b n cap m cap2 x.1 x.2 id xs ys w hr hr2 hw hw2 h.1 h.2
  · exact PoolTells_far a b n cap m cap2 x.1 x.2 id w hr.2.1 hr2.2.1 h
end Go.Proofs.Ytiaifphidcfddaa
