/-
  The fixed facts of the statements of layer 8 hold.
-/
import Derived.Test.YtiaifphidcfddaaGrow
import Derived.Test.YtiaifphidcfddaaStab1
import Derived.Test.YtiaifphidcfddaaRef8
import Derived.Test.YtiaifphidcfddaaPool5
import Derived.Test.YtiaifphidcfddaaSortI
set_option linter.unusedVariables false
set_option linter.unusedSimpArgs false
namespace Go.Proofs.Ytiaifphidcfddaa
open Go.RowKit Go.Shelf

abbrev ba : Bk := (1, 1)
abbrev bb : Bk := (1, 2)

/-- The two backends lie in their boxes. -/
def BaseW (H : Nat) (w0 w : World) : Prop := Below w0.heap.size w0 w ∧ w0.heap.size = H ∧ w.cell? ⟨H, 0, none⟩ = some (.int .i64 1) ∧ w.cell? ⟨H, 1, none⟩ = some (.int .i64 1) ∧ w.cell? ⟨H + 1, 0, none⟩ = some (.int .i64 1) ∧ w.cell? ⟨H + 1, 1, none⟩ = some (.int .i64 2)

theorem BaseW.grow {H : Nat} {w0 w w' : World} (h : BaseW H w0 w) (hb : Below w.heap.size w w') : BaseW H w0 w' := by
  obtain ⟨h1, h2, h3, h4, h5, h6⟩ := h
  have l1 := World.block_lt_of_cell? w _ h3
  have l2 := World.block_lt_of_cell? w _ h5
  exact ⟨below_then h1 h1.size hb, h2, (hb.cell (p := ⟨H, 0, none⟩) l1).trans h3, (hb.cell (p := ⟨H, 1, none⟩) l1).trans h4, (hb.cell (p := ⟨H + 1, 0, none⟩) l2).trans h5, (hb.cell (p := ⟨H + 1, 1, none⟩) l2).trans h6⟩

theorem wf_of {xs : List Bk} (h : ∀ x ∈ xs, I64 x.1 ∧ I64 x.2) : Wf xs := fun j x hx => h x (List.mem_of_getElem? hx)
theorem wf_ba : Wf [ba] := wf_of (by intro x hx; simp at hx; subst hx; exact ⟨⟨by decide, by decide⟩, by decide, by decide⟩)
theorem wf_bb : Wf [ba, bb] := wf_of (by intro x hx; simp at hx; rcases hx with rfl | rfl <;> exact ⟨⟨by decide, by decide⟩, by decide, by decide⟩)

theorem gone_one {r : List Int} (h : GoneIs [ba] [] r) : r = [1] := by
  obtain ⟨h1, h2⟩ := h
  have hm : ∀ y, y ∈ r ↔ y = 1 := fun y => by
    rw [h2 y]; simp [seen]; exact eq_comm
  match r, h1, hm with
  | [], _, hm => exact absurd ((hm 1).2 rfl) (by simp)
  | [x], _, hm => rw [(hm x).1 (by simp)]
  | x :: y :: t, h1, hm =>
    have e1 := (hm x).1 (by simp)
    have e2 := (hm y).1 (by simp)
    have : x < y := List.rel_of_pairwise_cons h1 (by simp)
    omega

def PostW2  : Nat → Value → World → Prop
  | 0, v, w => v = .agg #[.int .i64 1, .int .i64 1]
  | 1, v, w => ∃ a cap, v = .slice a 1 cap ∧ Rd 2 bkc w a 1 [ba]
  | 2, v, w => v = .agg #[.int .i64 1, .int .i64 2]
  | 3, v, w => ∃ a cap, v = .slice a 1 cap ∧ Rd 2 bkc w a 1 [bb]
  | 4, v, w => v = .agg #[.int .i64 1, .int .i64 2]
  | 5, v, w => ∃ a cap, v = .slice a 1 cap ∧ Rd 2 bkc w a 1 [bb]
  | 6, v, w => v = .bool true
  | 7, v, w => v = .bool true
  | _, _, _ => True
theorem PostW2_st  (i : Nat) (v : Value) (w w' : World) (h : PostW2  i v w) (hb : Below w.heap.size w w') : PostW2  i v w' := by
  match i with
  | 0 => exact h
  | 1 => obtain ⟨a, c, h1, h2⟩ := h; exact ⟨a, c, h1, h2.below hb⟩
  | 2 => exact h
  | 3 => obtain ⟨a, c, h1, h2⟩ := h; exact ⟨a, c, h1, h2.below hb⟩
  | 4 => exact h
  | 5 => obtain ⟨a, c, h1, h2⟩ := h; exact ⟨a, c, h1, h2.below hb⟩
  | 6 => exact h
  | 7 => exact h
  | _ + 8 => trivial
def PostW4  : Nat → Value → World → Prop
  | 0, v, w => v = .int .i64 0
  | 1, v, w => v = .bool true
  | 2, v, w => v = .bool true
  | 3, v, w => v = .agg #[.int .i64 1, .int .i64 1]
  | 4, v, w => v = .agg #[.int .i64 1, .int .i64 2]
  | 5, v, w => ∃ a cap, v = .slice a 2 cap ∧ Rd 2 bkc w a 2 [ba, bb]
  | 6, v, w => v = .int .i64 10
  | 7, v, w => v = .bool true
  | 8, v, w => v = .bool true
  | 9, v, w => v = .bool true
  | 10, v, w => v = .agg #[.int .i64 1, .int .i64 1]
  | 11, v, w => ∃ a cap, v = .slice a 1 cap ∧ Rd 2 bkc w a 1 [ba]
  | 12, v, w => v = .int .i64 0
  | 13, v, w => v = .bool true
  | 14, v, w => v = .bool true
  | 15, v, w => v = .bool true
  | 16, v, w => v = .agg #[.int .i64 1, .int .i64 1]
  | 17, v, w => ∃ a cap, v = .slice a 1 cap ∧ Rd 2 bkc w a 1 [ba]
  | 18, v, w => v = .int .i64 0
  | 19, v, w => v = .bool true
  | 20, v, w => v = .bool true
  | 21, v, w => v = .bool true
  | 22, v, w => v = .int .i64 (-1)
  | 23, v, w => v = .bool true
  | 24, v, w => v = .bool true
  | 25, v, w => v = .bool true
  | 26, v, w => v = .bool true
  | 27, v, w => v = .bool true
  | 28, v, w => v = .bool true
  | 29, v, w => v = .bool true
  | 30, v, w => v = .bool true
  | 31, v, w => v = .bool true
  | 32, v, w => v = .agg #[.int .i64 1, .int .i64 1]
  | 33, v, w => ∃ a cap, v = .slice a 1 cap ∧ Rd 2 bkc w a 1 [ba]
  | 34, v, w => ∃ a cap, v = .slice a 0 cap ∧ Rd 2 bkc w a 0 []
  | 35, v, w => v = .int .i64 0
  | 36, v, w => v = .bool true
  | 37, v, w => v = .bool true
  | 38, v, w => v = .bool true
  | 39, v, w => v = .agg #[.int .i64 1, .int .i64 1]
  | 40, v, w => ∃ a cap, v = .slice a 1 cap ∧ Rd 2 bkc w a 1 [ba]
  | 41, v, w => v = .agg #[.int .i64 1, .int .i64 1]
  | 42, v, w => ∃ a cap, v = .slice a 1 cap ∧ Rd 2 bkc w a 1 [ba]
  | 43, v, w => ∃ a cap, v = .slice a 1 cap ∧ Rd 2 bkc w a 1 [ba]
  | 44, v, w => v = .bool true
  | 45, v, w => v = .bool true
  | 46, v, w => v = .bool true
  | _, _, _ => True
theorem PostW4_st  (i : Nat) (v : Value) (w w' : World) (h : PostW4  i v w) (hb : Below w.heap.size w w') : PostW4  i v w' := by
  match i with
  | 0 => exact h
  | 1 => exact h
  | 2 => exact h
  | 3 => exact h
  | 4 => exact h
  | 5 => obtain ⟨a, c, h1, h2⟩ := h; exact ⟨a, c, h1, h2.below hb⟩
  | 6 => exact h
  | 7 => exact h
  | 8 => exact h
  | 9 => exact h
  | 10 => exact h
  | 11 => obtain ⟨a, c, h1, h2⟩ := h; exact ⟨a, c, h1, h2.below hb⟩
  | 12 => exact h
  | 13 => exact h
  | 14 => exact h
  | 15 => exact h
  | 16 => exact h
  | 17 => obtain ⟨a, c, h1, h2⟩ := h; exact ⟨a, c, h1, h2.below hb⟩
  | 18 => exact h
  | 19 => exact h
  | 20 => exact h
  | 21 => exact h
  | 22 => exact h
  | 23 => exact h
  | 24 => exact h
  | 25 => exact h
  | 26 => exact h
  | 27 => exact h
  | 28 => exact h
  | 29 => exact h
  | 30 => exact h
  | 31 => exact h
  | 32 => exact h
  | 33 => obtain ⟨a, c, h1, h2⟩ := h; exact ⟨a, c, h1, h2.below hb⟩
  | 34 => obtain ⟨a, c, h1, h2⟩ := h; exact ⟨a, c, h1, h2.below hb⟩
  | 35 => exact h
  | 36 => exact h
  | 37 => exact h
  | 38 => exact h
  | 39 => exact h
  | 40 => obtain ⟨a, c, h1, h2⟩ := h; exact ⟨a, c, h1, h2.below hb⟩
  | 41 => exact h
  | 42 => obtain ⟨a, c, h1, h2⟩ := h; exact ⟨a, c, h1, h2.below hb⟩
  | 43 => obtain ⟨a, c, h1, h2⟩ := h; exact ⟨a, c, h1, h2.below hb⟩
  | 44 => exact h
  | 45 => exact h
  | 46 => exact h
  | _ + 47 => trivial

set_option maxRecDepth 100000 in
set_option maxHeartbeats 8000000 in
theorem works_calls (w : World) : Calls Try.prog 32 #[] w fun e w' => e = .returned (.bool true) ∧ Below w.heap.size w w' := by
  have wf0 : Wf [] := fun j x h => by simp at h
  have wf1 := hide wf_ba
  have wf2 := hide wf_bb
  go_enter Try.func32, Try.ntmps32
  go_wp2
  refine wp_region_grow 65 [7, 8, 9, 10, 11, 12, 13, 3] (BaseW w.heap.size w) (PostW2) (by kernel_rfl) (by kernel_rfl) rfl (by kernel_rfl) (by kernel_rfl) ?_ (PostW2_st) ⟨⟨⟨⟨⟨⟨⟨⟨trivial, ?o0⟩, ?o1⟩, ?o2⟩, ?o3⟩, ?o4⟩, ?o5⟩, ?o6⟩, ?o7⟩ ?_
  case o0 =>
    intro g wr hB hk hp K hK
    have p1 : g 1 = .pointer (some ⟨w.heap.size, 0, none⟩) := Option.some.inj (hk 1 (by decide) (by kernel_rfl))
    have HB := hide hB
    obtain ⟨b1, b2, b3, b4, b5, b6⟩ := hB
    clear hk hp
    have e1 := actOf_get 65 g ([] : List Deferred) 1 (by omega) p1
    refine wpOp_free rfl rfl ?_
    go_simp
    exact hK _ _ (Below.refl _ _) HB.out (by first | rfl | simp)
  case o1 =>
    intro g wr hB hk hp K hK
    have p7 : g 7 = .agg #[.int .i64 1, .int .i64 1] := hp 0 (by kernel_rfl)
    have HB := hide hB
    clear hB
    clear hk hp
    have e7 := actOf_get 65 g ([] : List Deferred) 7 (by omega) p7
    refine wpOp_free rfl rfl ?_
    go_simp
    have hb := (Below.refl wr.heap.size wr).alloc (Nat.le_refl _) (.cells #[.int .i64 1, .int .i64 1] 56)
    exact hK _ _ hb (HB.out.grow hb) ⟨_, _, rfl, Rd_fresh bkc_len _ _ _ 1 [ba] rfl rfl (by decide) _ rfl⟩
  case o2 =>
    intro g wr hB hk hp K hK
    have p2 : g 2 = .pointer (some ⟨w.heap.size + 1, 0, none⟩) := Option.some.inj (hk 2 (by decide) (by kernel_rfl))
    have HB := hide hB
    obtain ⟨b1, b2, b3, b4, b5, b6⟩ := hB
    clear hk hp
    have e2 := actOf_get 65 g ([] : List Deferred) 2 (by omega) p2
    refine wpOp_free rfl rfl ?_
    go_simp
    exact hK _ _ (Below.refl _ _) HB.out (by first | rfl | simp)
  case o3 =>
    intro g wr hB hk hp K hK
    obtain ⟨a8, cap8, p8, r8⟩ : ∃ a cap, g 8 = .slice a 1 cap ∧ Rd 2 bkc wr a 1 [ba] := hp 1 (by kernel_rfl)
    have R8 := hide r8
    clear r8
    have p9 : g 9 = .agg #[.int .i64 1, .int .i64 2] := hp 2 (by kernel_rfl)
    have HB := hide hB
    clear hB
    clear hk hp
    have e8 := actOf_get 65 g ([] : List Deferred) 8 (by omega) p8
    have e9 := actOf_get 65 g ([] : List Deferred) 9 (by omega) p9
    refine wpOp_free rfl rfl ?_
    go_simp
    go_at_call 36
    refine (With_calls _ _ _ _ _ _ _ R8.out (by omega)).mono ?_
    rintro e w' ⟨v, rfl, ho, hb⟩
    obtain ⟨a2, cap2, hv, hr, _⟩ := ho.form bkc_len
    exact hK _ _ hb (HB.out.grow hb) ⟨a2, cap2, hv, hr⟩
  case o4 =>
    intro g wr hB hk hp K hK
    have p2 : g 2 = .pointer (some ⟨w.heap.size + 1, 0, none⟩) := Option.some.inj (hk 2 (by decide) (by kernel_rfl))
    have HB := hide hB
    obtain ⟨b1, b2, b3, b4, b5, b6⟩ := hB
    clear hk hp
    have e2 := actOf_get 65 g ([] : List Deferred) 2 (by omega) p2
    refine wpOp_free rfl rfl ?_
    go_simp
    exact hK _ _ (Below.refl _ _) HB.out (by first | rfl | simp)
  case o5 =>
    intro g wr hB hk hp K hK
    have p11 : g 11 = .agg #[.int .i64 1, .int .i64 2] := hp 4 (by kernel_rfl)
    have HB := hide hB
    clear hB
    clear hk hp
    have e11 := actOf_get 65 g ([] : List Deferred) 11 (by omega) p11
    refine wpOp_free rfl rfl ?_
    go_simp
    have hb := (Below.refl wr.heap.size wr).alloc (Nat.le_refl _) (.cells #[.int .i64 1, .int .i64 2] 56)
    exact hK _ _ hb (HB.out.grow hb) ⟨_, _, rfl, Rd_fresh bkc_len _ _ _ 1 [bb] rfl rfl (by decide) _ rfl⟩
  case o6 =>
    intro g wr hB hk hp K hK
    obtain ⟨a10, cap10, p10, r10⟩ : ∃ a cap, g 10 = .slice a 1 cap ∧ Rd 2 bkc wr a 1 [bb] := hp 3 (by kernel_rfl)
    have R10 := hide r10
    clear r10
    obtain ⟨a12, cap12, p12, r12⟩ : ∃ a cap, g 12 = .slice a 1 cap ∧ Rd 2 bkc wr a 1 [bb] := hp 5 (by kernel_rfl)
    have R12 := hide r12
    clear r12
    have HB := hide hB
    clear hB
    clear hk hp
    have e10 := actOf_get 65 g ([] : List Deferred) 10 (by omega) p10
    have e12 := actOf_get 65 g ([] : List Deferred) 12 (by omega) p12
    refine wpOp_free rfl rfl ?_
    go_simp
    go_at_call 33
    refine (RSame_calls _ _ _ _ _ _ _ _ _ R10.out R12.out).mono ?_
    rintro e w' ⟨rfl, hb⟩
    exact hK _ _ hb (HB.out.grow hb) (by rfl)
  case o7 =>
    intro g wr hB hk hp K hK
    have p13 : g 13 = .bool true := hp 6 (by kernel_rfl)
    have HB := hide hB
    clear hB
    clear hk hp
    have e13 := actOf_get 65 g ([] : List Deferred) 13 (by omega) p13
    refine wpOp_free rfl rfl ?_
    go_simp
    exact hK _ _ (Below.refl _ _) HB.out (by first | rfl | simp)
  · exact ⟨((Below.refl _ w).alloc (Nat.le_refl _) _).alloc (by simp) _ |>.drew, rfl, by simp, by simp, by simp, by simp⟩
  · intro g2 wr hB hP
    have p3 : g2 3 = .bool true := hP 7 (by decide)
    have HB := hide hB
    obtain ⟨b1, b2, b3, b4, b5, b6⟩ := hB
    clear hP
    simp only [putAll, Act.put, List.setIfInBounds_toArray, List.set_cons_zero, List.set_cons_succ, p3]
    clear p3
    have hB4 : ∀ o, Below wr.heap.size wr (wr.alloc o) := fun o => (Below.refl _ _).alloc (Nat.le_refl _) _
    have HB4 := hide hB4
    clear hB4
    go_wp2_with (first
      | (go_at_call 41; refine (Gone_calls sortInts _ _ _ _ _ _ [ba] [] _ (Rd_fresh bkc_len _ _ _ 1 [ba] rfl rfl (by decide) _ rfl) (Rd.nil _) wf1.out wf0 (by omega)).mono ?_; rintro e w1 ⟨v, r, rfl, ho, hg, hb⟩; obtain rfl := gone_one hg; obtain ⟨a2, cap2, hv, hr, _⟩ := ho.form i64c_len; subst hv; have HR := hide (And.intro hr hb); clear hg ho hr hb)
      | (go_at_call 40; refine (RInts_calls _ _ _ _ _ _ _ _ _ (HR.out.1.below ((Below.refl _ _).alloc (Nat.le_refl _) _)) (Rd_fresh i64c_len _ _ _ 1 [1] rfl rfl (by decide) _ rfl)).mono ?_; rintro e w2 ⟨rfl, hb⟩; have HR2 := hide hb; clear hb))
    have hB5 : BaseW w.heap.size w w2 := ((HB.out.grow (HB4.out _)).grow HR.out.2).grow ((((Below.refl _ _).alloc (Nat.le_refl _) _)).trans (HR2.out.mono (by simp)))
    clear HB HB4 HR HR2 b1 b2 b3 b4 b5 b6
    refine wp_region_grow 65 [19, 20, 21, 22, 23, 24, 25, 26, 27, 28, 29, 30, 31, 32, 33, 34, 35, 36, 37, 38, 39, 40, 41, 42, 43, 44, 45, 46, 47, 48, 49, 50, 51, 52, 53, 54, 55, 56, 57, 58, 59, 60, 61, 62, 63, 64, 0] (BaseW w.heap.size w) (PostW4) (by kernel_rfl) (by kernel_rfl) rfl (by kernel_rfl) (by kernel_rfl) ?_ (PostW4_st) ⟨⟨⟨⟨⟨⟨⟨⟨⟨⟨⟨⟨⟨⟨⟨⟨⟨⟨⟨⟨⟨⟨⟨⟨⟨⟨⟨⟨⟨⟨⟨⟨⟨⟨⟨⟨⟨⟨⟨⟨⟨⟨⟨⟨⟨⟨⟨trivial, ?o0⟩, ?o1⟩, ?o2⟩, ?o3⟩, ?o4⟩, ?o5⟩, ?o6⟩, ?o7⟩, ?o8⟩, ?o9⟩, ?o10⟩, ?o11⟩, ?o12⟩, ?o13⟩, ?o14⟩, ?o15⟩, ?o16⟩, ?o17⟩, ?o18⟩, ?o19⟩, ?o20⟩, ?o21⟩, ?o22⟩, ?o23⟩, ?o24⟩, ?o25⟩, ?o26⟩, ?o27⟩, ?o28⟩, ?o29⟩, ?o30⟩, ?o31⟩, ?o32⟩, ?o33⟩, ?o34⟩, ?o35⟩, ?o36⟩, ?o37⟩, ?o38⟩, ?o39⟩, ?o40⟩, ?o41⟩, ?o42⟩, ?o43⟩, ?o44⟩, ?o45⟩, ?o46⟩ ?_
    case o0 =>
      intro g wr hB hk hp K hK
      have HB := hide hB
      clear hB
      clear hk hp
      refine wpOp_free rfl rfl ?_
      go_simp
      go_at_call 26
      refine (Check_calls _ _ _ _ _ (Rd.nil _) wf0 (by omega)).mono ?_
      rintro e w' ⟨rfl, hb⟩
      exact hK _ _ hb (HB.out.grow hb) (by rfl)
    case o1 =>
      intro g wr hB hk hp K hK
      have p19 : g 19 = .int .i64 0 := hp 0 (by kernel_rfl)
      have HB := hide hB
      clear hB
      clear hk hp
      have e19 := actOf_get 65 g ([] : List Deferred) 19 (by omega) p19
      refine wpOp_free rfl rfl ?_
      go_simp
      exact hK _ _ (Below.refl _ _) HB.out (by first | rfl | simp)
    case o2 =>
      intro g wr hB hk hp K hK
      have p20 : g 20 = .bool true := hp 1 (by kernel_rfl)
      have HB := hide hB
      clear hB
      clear hk hp
      have e20 := actOf_get 65 g ([] : List Deferred) 20 (by omega) p20
      refine wpOp_free rfl rfl ?_
      go_simp
      exact hK _ _ (Below.refl _ _) HB.out (by first | rfl | simp)
    case o3 =>
      intro g wr hB hk hp K hK
      have p1 : g 1 = .pointer (some ⟨w.heap.size, 0, none⟩) := Option.some.inj (hk 1 (by decide) (by kernel_rfl))
      have pg : g 21 = .bool true := hp 2 (by kernel_rfl)
      have HB := hide hB
      obtain ⟨b1, b2, b3, b4, b5, b6⟩ := hB
      clear hk hp
      have e1 := actOf_get 65 g ([] : List Deferred) 1 (by omega) p1
      refine wpOp_let rfl rfl (by kernel_rfl) (by omega) pg ?_
      clear pg
      go_simp
      exact hK _ _ (Below.refl _ _) HB.out (by first | rfl | simp)
    case o4 =>
      intro g wr hB hk hp K hK
      have p2 : g 2 = .pointer (some ⟨w.heap.size + 1, 0, none⟩) := Option.some.inj (hk 2 (by decide) (by kernel_rfl))
      have pg : g 21 = .bool true := hp 2 (by kernel_rfl)
      have HB := hide hB
      obtain ⟨b1, b2, b3, b4, b5, b6⟩ := hB
      clear hk hp
      have e2 := actOf_get 65 g ([] : List Deferred) 2 (by omega) p2
      refine wpOp_let rfl rfl (by kernel_rfl) (by omega) pg ?_
      clear pg
      go_simp
      exact hK _ _ (Below.refl _ _) HB.out (by first | rfl | simp)
    case o5 =>
      intro g wr hB hk hp K hK
      have p22 : g 22 = .agg #[.int .i64 1, .int .i64 1] := hp 3 (by kernel_rfl)
      have p23 : g 23 = .agg #[.int .i64 1, .int .i64 2] := hp 4 (by kernel_rfl)
      have pg : g 21 = .bool true := hp 2 (by kernel_rfl)
      have HB := hide hB
      clear hB
      clear hk hp
      have e22 := actOf_get 65 g ([] : List Deferred) 22 (by omega) p22
      have e23 := actOf_get 65 g ([] : List Deferred) 23 (by omega) p23
      refine wpOp_let rfl rfl (by kernel_rfl) (by omega) pg ?_
      clear pg
      go_simp
      have hb := (Below.refl wr.heap.size wr).alloc (Nat.le_refl _) (.cells #[.int .i64 1, .int .i64 1, .int .i64 1, .int .i64 2] 56)
      exact hK _ _ hb (HB.out.grow hb) ⟨_, _, rfl, Rd_fresh bkc_len _ _ _ 2 [ba, bb] rfl rfl (by decide) _ rfl⟩
    case o6 =>
      intro g wr hB hk hp K hK
      obtain ⟨a24, cap24, p24, r24⟩ : ∃ a cap, g 24 = .slice a 2 cap ∧ Rd 2 bkc wr a 2 [ba, bb] := hp 5 (by kernel_rfl)
      have R24 := hide r24
      clear r24
      have pg : g 21 = .bool true := hp 2 (by kernel_rfl)
      have HB := hide hB
      clear hB
      clear hk hp
      have e24 := actOf_get 65 g ([] : List Deferred) 24 (by omega) p24
      refine wpOp_let rfl rfl (by kernel_rfl) (by omega) pg ?_
      clear pg
      go_simp
      go_at_call 26
      refine (Check_calls _ _ _ _ _ R24.out wf2.out (by omega)).mono ?_
      rintro e w' ⟨rfl, hb⟩
      exact hK _ _ hb (HB.out.grow hb) (by rfl)
    case o7 =>
      intro g wr hB hk hp K hK
      have p25 : g 25 = .int .i64 10 := hp 6 (by kernel_rfl)
      have pg : g 21 = .bool true := hp 2 (by kernel_rfl)
      have HB := hide hB
      clear hB
      clear hk hp
      have e25 := actOf_get 65 g ([] : List Deferred) 25 (by omega) p25
      refine wpOp_let rfl rfl (by kernel_rfl) (by omega) pg ?_
      clear pg
      go_simp
      exact hK _ _ (Below.refl _ _) HB.out (by first | rfl | simp)
    case o8 =>
      intro g wr hB hk hp K hK
      have p21 : g 21 = .bool true := hp 2 (by kernel_rfl)
      have p26 : g 26 = .bool true := hp 7 (by kernel_rfl)
      have HB := hide hB
      clear hB
      clear hk hp
      have e21 := actOf_get 65 g ([] : List Deferred) 21 (by omega) p21
      have e26 := actOf_get 65 g ([] : List Deferred) 26 (by omega) p26
      refine wpOp_free rfl rfl ?_
      go_simp
      exact hK _ _ (Below.refl _ _) HB.out (by first | rfl | simp)
    case o9 =>
      intro g wr hB hk hp K hK
      have p27 : g 27 = .bool true := hp 8 (by kernel_rfl)
      have HB := hide hB
      clear hB
      clear hk hp
      have e27 := actOf_get 65 g ([] : List Deferred) 27 (by omega) p27
      refine wpOp_free rfl rfl ?_
      go_simp
      exact hK _ _ (Below.refl _ _) HB.out (by first | rfl | simp)
    case o10 =>
      intro g wr hB hk hp K hK
      have p1 : g 1 = .pointer (some ⟨w.heap.size, 0, none⟩) := Option.some.inj (hk 1 (by decide) (by kernel_rfl))
      have pg : g 28 = .bool true := hp 9 (by kernel_rfl)
      have HB := hide hB
      obtain ⟨b1, b2, b3, b4, b5, b6⟩ := hB
      clear hk hp
      have e1 := actOf_get 65 g ([] : List Deferred) 1 (by omega) p1
      refine wpOp_let rfl rfl (by kernel_rfl) (by omega) pg ?_
      clear pg
      go_simp
      exact hK _ _ (Below.refl _ _) HB.out (by first | rfl | simp)
    case o11 =>
      intro g wr hB hk hp K hK
      have p29 : g 29 = .agg #[.int .i64 1, .int .i64 1] := hp 10 (by kernel_rfl)
      have pg : g 28 = .bool true := hp 9 (by kernel_rfl)
      have HB := hide hB
      clear hB
      clear hk hp
      have e29 := actOf_get 65 g ([] : List Deferred) 29 (by omega) p29
      refine wpOp_let rfl rfl (by kernel_rfl) (by omega) pg ?_
      clear pg
      go_simp
      have hb := (Below.refl wr.heap.size wr).alloc (Nat.le_refl _) (.cells #[.int .i64 1, .int .i64 1] 56)
      exact hK _ _ hb (HB.out.grow hb) ⟨_, _, rfl, Rd_fresh bkc_len _ _ _ 1 [ba] rfl rfl (by decide) _ rfl⟩
    case o12 =>
      intro g wr hB hk hp K hK
      obtain ⟨a30, cap30, p30, r30⟩ : ∃ a cap, g 30 = .slice a 1 cap ∧ Rd 2 bkc wr a 1 [ba] := hp 11 (by kernel_rfl)
      have R30 := hide r30
      clear r30
      have pg : g 28 = .bool true := hp 9 (by kernel_rfl)
      have HB := hide hB
      clear hB
      clear hk hp
      have e30 := actOf_get 65 g ([] : List Deferred) 30 (by omega) p30
      refine wpOp_let rfl rfl (by kernel_rfl) (by omega) pg ?_
      clear pg
      go_simp
      go_at_call 26
      refine (Check_calls _ _ _ _ _ R30.out wf1.out (by omega)).mono ?_
      rintro e w' ⟨rfl, hb⟩
      exact hK _ _ hb (HB.out.grow hb) (by rfl)
    case o13 =>
      intro g wr hB hk hp K hK
      have p31 : g 31 = .int .i64 0 := hp 12 (by kernel_rfl)
      have pg : g 28 = .bool true := hp 9 (by kernel_rfl)
      have HB := hide hB
      clear hB
      clear hk hp
      have e31 := actOf_get 65 g ([] : List Deferred) 31 (by omega) p31
      refine wpOp_let rfl rfl (by kernel_rfl) (by omega) pg ?_
      clear pg
      go_simp
      exact hK _ _ (Below.refl _ _) HB.out (by first | rfl | simp)
    case o14 =>
      intro g wr hB hk hp K hK
      have p28 : g 28 = .bool true := hp 9 (by kernel_rfl)
      have p32 : g 32 = .bool true := hp 13 (by kernel_rfl)
      have HB := hide hB
      clear hB
      clear hk hp
      have e28 := actOf_get 65 g ([] : List Deferred) 28 (by omega) p28
      have e32 := actOf_get 65 g ([] : List Deferred) 32 (by omega) p32
      refine wpOp_free rfl rfl ?_
      go_simp
      exact hK _ _ (Below.refl _ _) HB.out (by first | rfl | simp)
    case o15 =>
      intro g wr hB hk hp K hK
      have p33 : g 33 = .bool true := hp 14 (by kernel_rfl)
      have HB := hide hB
      clear hB
      clear hk hp
      have e33 := actOf_get 65 g ([] : List Deferred) 33 (by omega) p33
      refine wpOp_free rfl rfl ?_
      go_simp
      exact hK _ _ (Below.refl _ _) HB.out (by first | rfl | simp)
    case o16 =>
      intro g wr hB hk hp K hK
      have p1 : g 1 = .pointer (some ⟨w.heap.size, 0, none⟩) := Option.some.inj (hk 1 (by decide) (by kernel_rfl))
      have pg : g 34 = .bool true := hp 15 (by kernel_rfl)
      have HB := hide hB
      obtain ⟨b1, b2, b3, b4, b5, b6⟩ := hB
      clear hk hp
      have e1 := actOf_get 65 g ([] : List Deferred) 1 (by omega) p1
      refine wpOp_let rfl rfl (by kernel_rfl) (by omega) pg ?_
      clear pg
      go_simp
      exact hK _ _ (Below.refl _ _) HB.out (by first | rfl | simp)
    case o17 =>
      intro g wr hB hk hp K hK
      have p35 : g 35 = .agg #[.int .i64 1, .int .i64 1] := hp 16 (by kernel_rfl)
      have pg : g 34 = .bool true := hp 15 (by kernel_rfl)
      have HB := hide hB
      clear hB
      clear hk hp
      have e35 := actOf_get 65 g ([] : List Deferred) 35 (by omega) p35
      refine wpOp_let rfl rfl (by kernel_rfl) (by omega) pg ?_
      clear pg
      go_simp
      have hb := (Below.refl wr.heap.size wr).alloc (Nat.le_refl _) (.cells #[.int .i64 1, .int .i64 1] 56)
      exact hK _ _ hb (HB.out.grow hb) ⟨_, _, rfl, Rd_fresh bkc_len _ _ _ 1 [ba] rfl rfl (by decide) _ rfl⟩
    case o18 =>
      intro g wr hB hk hp K hK
      obtain ⟨a36, cap36, p36, r36⟩ : ∃ a cap, g 36 = .slice a 1 cap ∧ Rd 2 bkc wr a 1 [ba] := hp 17 (by kernel_rfl)
      have R36 := hide r36
      clear r36
      have pg : g 34 = .bool true := hp 15 (by kernel_rfl)
      have HB := hide hB
      clear hB
      clear hk hp
      have e36 := actOf_get 65 g ([] : List Deferred) 36 (by omega) p36
      refine wpOp_let rfl rfl (by kernel_rfl) (by omega) pg ?_
      clear pg
      go_simp
      go_at_call 29
      refine (Find_calls _ _ _ _ _ _ R36.out).mono ?_
      rintro e w' ⟨rfl, hb⟩
      exact hK _ _ hb (HB.out.grow hb) (by rfl)
    case o19 =>
      intro g wr hB hk hp K hK
      have p37 : g 37 = .int .i64 0 := hp 18 (by kernel_rfl)
      have pg : g 34 = .bool true := hp 15 (by kernel_rfl)
      have HB := hide hB
      clear hB
      clear hk hp
      have e37 := actOf_get 65 g ([] : List Deferred) 37 (by omega) p37
      refine wpOp_let rfl rfl (by kernel_rfl) (by omega) pg ?_
      clear pg
      go_simp
      exact hK _ _ (Below.refl _ _) HB.out (by first | rfl | simp)
    case o20 =>
      intro g wr hB hk hp K hK
      have p34 : g 34 = .bool true := hp 15 (by kernel_rfl)
      have p38 : g 38 = .bool true := hp 19 (by kernel_rfl)
      have HB := hide hB
      clear hB
      clear hk hp
      have e34 := actOf_get 65 g ([] : List Deferred) 34 (by omega) p34
      have e38 := actOf_get 65 g ([] : List Deferred) 38 (by omega) p38
      refine wpOp_free rfl rfl ?_
      go_simp
      exact hK _ _ (Below.refl _ _) HB.out (by first | rfl | simp)
    case o21 =>
      intro g wr hB hk hp K hK
      have p39 : g 39 = .bool true := hp 20 (by kernel_rfl)
      have HB := hide hB
      clear hB
      clear hk hp
      have e39 := actOf_get 65 g ([] : List Deferred) 39 (by omega) p39
      refine wpOp_free rfl rfl ?_
      go_simp
      exact hK _ _ (Below.refl _ _) HB.out (by first | rfl | simp)
    case o22 =>
      intro g wr hB hk hp K hK
      have pg : g 40 = .bool true := hp 21 (by kernel_rfl)
      have HB := hide hB
      clear hB
      clear hk hp
      refine wpOp_let rfl rfl (by kernel_rfl) (by omega) pg ?_
      clear pg
      go_simp
      go_at_call 29
      refine (Find_calls _ _ _ _ _ _ (Rd.nil _)).mono ?_
      rintro e w' ⟨rfl, hb⟩
      exact hK _ _ hb (HB.out.grow hb) (by rfl)
    case o23 =>
      intro g wr hB hk hp K hK
      have p41 : g 41 = .int .i64 (-1) := hp 22 (by kernel_rfl)
      have pg : g 40 = .bool true := hp 21 (by kernel_rfl)
      have HB := hide hB
      clear hB
      clear hk hp
      have e41 := actOf_get 65 g ([] : List Deferred) 41 (by omega) p41
      refine wpOp_let rfl rfl (by kernel_rfl) (by omega) pg ?_
      clear pg
      go_simp
      exact hK _ _ (Below.refl _ _) HB.out (by first | rfl | simp)
    case o24 =>
      intro g wr hB hk hp K hK
      have p40 : g 40 = .bool true := hp 21 (by kernel_rfl)
      have p42 : g 42 = .bool true := hp 23 (by kernel_rfl)
      have HB := hide hB
      clear hB
      clear hk hp
      have e40 := actOf_get 65 g ([] : List Deferred) 40 (by omega) p40
      have e42 := actOf_get 65 g ([] : List Deferred) 42 (by omega) p42
      refine wpOp_free rfl rfl ?_
      go_simp
      exact hK _ _ (Below.refl _ _) HB.out (by first | rfl | simp)
    case o25 =>
      intro g wr hB hk hp K hK
      have p43 : g 43 = .bool true := hp 24 (by kernel_rfl)
      have HB := hide hB
      clear hB
      clear hk hp
      have e43 := actOf_get 65 g ([] : List Deferred) 43 (by omega) p43
      refine wpOp_free rfl rfl ?_
      go_simp
      exact hK _ _ (Below.refl _ _) HB.out (by first | rfl | simp)
    case o26 =>
      intro g wr hB hk hp K hK
      have p3 : g 3 = .bool true := Option.some.inj (hk 3 (by decide) (by kernel_rfl))
      have pg : g 44 = .bool true := hp 25 (by kernel_rfl)
      have HB := hide hB
      clear hB
      clear hk hp
      have e3 := actOf_get 65 g ([] : List Deferred) 3 (by omega) p3
      refine wpOp_let rfl rfl (by kernel_rfl) (by omega) pg ?_
      clear pg
      go_simp
      exact hK _ _ (Below.refl _ _) HB.out (by first | rfl | simp)
    case o27 =>
      intro g wr hB hk hp K hK
      have p44 : g 44 = .bool true := hp 25 (by kernel_rfl)
      have p45 : g 45 = .bool true := hp 26 (by kernel_rfl)
      have HB := hide hB
      clear hB
      clear hk hp
      have e44 := actOf_get 65 g ([] : List Deferred) 44 (by omega) p44
      have e45 := actOf_get 65 g ([] : List Deferred) 45 (by omega) p45
      refine wpOp_free rfl rfl ?_
      go_simp
      exact hK _ _ (Below.refl _ _) HB.out (by first | rfl | simp)
    case o28 =>
      intro g wr hB hk hp K hK
      have p46 : g 46 = .bool true := hp 27 (by kernel_rfl)
      have HB := hide hB
      clear hB
      clear hk hp
      have e46 := actOf_get 65 g ([] : List Deferred) 46 (by omega) p46
      refine wpOp_free rfl rfl ?_
      go_simp
      exact hK _ _ (Below.refl _ _) HB.out (by first | rfl | simp)
    case o29 =>
      intro g wr hB hk hp K hK
      have p4 : g 4 = .bool true := Option.some.inj (hk 4 (by decide) (by kernel_rfl))
      have pg : g 47 = .bool true := hp 28 (by kernel_rfl)
      have HB := hide hB
      clear hB
      clear hk hp
      have e4 := actOf_get 65 g ([] : List Deferred) 4 (by omega) p4
      refine wpOp_let rfl rfl (by kernel_rfl) (by omega) pg ?_
      clear pg
      go_simp
      exact hK _ _ (Below.refl _ _) HB.out (by first | rfl | simp)
    case o30 =>
      intro g wr hB hk hp K hK
      have p47 : g 47 = .bool true := hp 28 (by kernel_rfl)
      have p48 : g 48 = .bool true := hp 29 (by kernel_rfl)
      have HB := hide hB
      clear hB
      clear hk hp
      have e47 := actOf_get 65 g ([] : List Deferred) 47 (by omega) p47
      have e48 := actOf_get 65 g ([] : List Deferred) 48 (by omega) p48
      refine wpOp_free rfl rfl ?_
      go_simp
      exact hK _ _ (Below.refl _ _) HB.out (by first | rfl | simp)
    case o31 =>
      intro g wr hB hk hp K hK
      have p49 : g 49 = .bool true := hp 30 (by kernel_rfl)
      have HB := hide hB
      clear hB
      clear hk hp
      have e49 := actOf_get 65 g ([] : List Deferred) 49 (by omega) p49
      refine wpOp_free rfl rfl ?_
      go_simp
      exact hK _ _ (Below.refl _ _) HB.out (by first | rfl | simp)
    case o32 =>
      intro g wr hB hk hp K hK
      have p1 : g 1 = .pointer (some ⟨w.heap.size, 0, none⟩) := Option.some.inj (hk 1 (by decide) (by kernel_rfl))
      have pg : g 50 = .bool true := hp 31 (by kernel_rfl)
      have HB := hide hB
      obtain ⟨b1, b2, b3, b4, b5, b6⟩ := hB
      clear hk hp
      have e1 := actOf_get 65 g ([] : List Deferred) 1 (by omega) p1
      refine wpOp_let rfl rfl (by kernel_rfl) (by omega) pg ?_
      clear pg
      go_simp
      exact hK _ _ (Below.refl _ _) HB.out (by first | rfl | simp)
    case o33 =>
      intro g wr hB hk hp K hK
      have p51 : g 51 = .agg #[.int .i64 1, .int .i64 1] := hp 32 (by kernel_rfl)
      have pg : g 50 = .bool true := hp 31 (by kernel_rfl)
      have HB := hide hB
      clear hB
      clear hk hp
      have e51 := actOf_get 65 g ([] : List Deferred) 51 (by omega) p51
      refine wpOp_let rfl rfl (by kernel_rfl) (by omega) pg ?_
      clear pg
      go_simp
      have hb := (Below.refl wr.heap.size wr).alloc (Nat.le_refl _) (.cells #[.int .i64 1, .int .i64 1] 56)
      exact hK _ _ hb (HB.out.grow hb) ⟨_, _, rfl, Rd_fresh bkc_len _ _ _ 1 [ba] rfl rfl (by decide) _ rfl⟩
    case o34 =>
      intro g wr hB hk hp K hK
      obtain ⟨a52, cap52, p52, r52⟩ : ∃ a cap, g 52 = .slice a 1 cap ∧ Rd 2 bkc wr a 1 [ba] := hp 33 (by kernel_rfl)
      have R52 := hide r52
      clear r52
      have pg : g 50 = .bool true := hp 31 (by kernel_rfl)
      have HB := hide hB
      clear hB
      clear hk hp
      have e52 := actOf_get 65 g ([] : List Deferred) 52 (by omega) p52
      refine wpOp_let rfl rfl (by kernel_rfl) (by omega) pg ?_
      clear pg
      go_simp
      go_at_call 38
      refine (Without_calls _ _ _ _ _ _ R52.out (by omega)).mono ?_
      rintro e w' ⟨v, rfl, ho, hb⟩
      obtain ⟨a2, cap2, hv, hr, _⟩ := ho.form bkc_len
      exact hK _ _ hb (HB.out.grow hb) ⟨a2, cap2, hv, hr⟩
    case o35 =>
      intro g wr hB hk hp K hK
      obtain ⟨a53, cap53, p53, r53⟩ : ∃ a cap, g 53 = .slice a 0 cap ∧ Rd 2 bkc wr a 0 [] := hp 34 (by kernel_rfl)
      have R53 := hide r53
      clear r53
      have pg : g 50 = .bool true := hp 31 (by kernel_rfl)
      have HB := hide hB
      clear hB
      clear hk hp
      have e53 := actOf_get 65 g ([] : List Deferred) 53 (by omega) p53
      refine wpOp_let rfl rfl (by kernel_rfl) (by omega) pg ?_
      clear pg
      go_simp
      exact hK _ _ (Below.refl _ _) HB.out (by first | rfl | simp)
    case o36 =>
      intro g wr hB hk hp K hK
      have p54 : g 54 = .int .i64 0 := hp 35 (by kernel_rfl)
      have pg : g 50 = .bool true := hp 31 (by kernel_rfl)
      have HB := hide hB
      clear hB
      clear hk hp
      have e54 := actOf_get 65 g ([] : List Deferred) 54 (by omega) p54
      refine wpOp_let rfl rfl (by kernel_rfl) (by omega) pg ?_
      clear pg
      go_simp
      exact hK _ _ (Below.refl _ _) HB.out (by first | rfl | simp)
    case o37 =>
      intro g wr hB hk hp K hK
      have p50 : g 50 = .bool true := hp 31 (by kernel_rfl)
      have p55 : g 55 = .bool true := hp 36 (by kernel_rfl)
      have HB := hide hB
      clear hB
      clear hk hp
      have e50 := actOf_get 65 g ([] : List Deferred) 50 (by omega) p50
      have e55 := actOf_get 65 g ([] : List Deferred) 55 (by omega) p55
      refine wpOp_free rfl rfl ?_
      go_simp
      exact hK _ _ (Below.refl _ _) HB.out (by first | rfl | simp)
    case o38 =>
      intro g wr hB hk hp K hK
      have p56 : g 56 = .bool true := hp 37 (by kernel_rfl)
      have HB := hide hB
      clear hB
      clear hk hp
      have e56 := actOf_get 65 g ([] : List Deferred) 56 (by omega) p56
      refine wpOp_free rfl rfl ?_
      go_simp
      exact hK _ _ (Below.refl _ _) HB.out (by first | rfl | simp)
    case o39 =>
      intro g wr hB hk hp K hK
      have p1 : g 1 = .pointer (some ⟨w.heap.size, 0, none⟩) := Option.some.inj (hk 1 (by decide) (by kernel_rfl))
      have pg : g 57 = .bool true := hp 38 (by kernel_rfl)
      have HB := hide hB
      obtain ⟨b1, b2, b3, b4, b5, b6⟩ := hB
      clear hk hp
      have e1 := actOf_get 65 g ([] : List Deferred) 1 (by omega) p1
      refine wpOp_let rfl rfl (by kernel_rfl) (by omega) pg ?_
      clear pg
      go_simp
      exact hK _ _ (Below.refl _ _) HB.out (by first | rfl | simp)
    case o40 =>
      intro g wr hB hk hp K hK
      have p58 : g 58 = .agg #[.int .i64 1, .int .i64 1] := hp 39 (by kernel_rfl)
      have pg : g 57 = .bool true := hp 38 (by kernel_rfl)
      have HB := hide hB
      clear hB
      clear hk hp
      have e58 := actOf_get 65 g ([] : List Deferred) 58 (by omega) p58
      refine wpOp_let rfl rfl (by kernel_rfl) (by omega) pg ?_
      clear pg
      go_simp
      have hb := (Below.refl wr.heap.size wr).alloc (Nat.le_refl _) (.cells #[.int .i64 1, .int .i64 1] 56)
      exact hK _ _ hb (HB.out.grow hb) ⟨_, _, rfl, Rd_fresh bkc_len _ _ _ 1 [ba] rfl rfl (by decide) _ rfl⟩
    case o41 =>
      intro g wr hB hk hp K hK
      have p1 : g 1 = .pointer (some ⟨w.heap.size, 0, none⟩) := Option.some.inj (hk 1 (by decide) (by kernel_rfl))
      have pg : g 57 = .bool true := hp 38 (by kernel_rfl)
      have HB := hide hB
      obtain ⟨b1, b2, b3, b4, b5, b6⟩ := hB
      clear hk hp
      have e1 := actOf_get 65 g ([] : List Deferred) 1 (by omega) p1
      refine wpOp_let rfl rfl (by kernel_rfl) (by omega) pg ?_
      clear pg
      go_simp
      exact hK _ _ (Below.refl _ _) HB.out (by first | rfl | simp)
    case o42 =>
      intro g wr hB hk hp K hK
      have p60 : g 60 = .agg #[.int .i64 1, .int .i64 1] := hp 41 (by kernel_rfl)
      have pg : g 57 = .bool true := hp 38 (by kernel_rfl)
      have HB := hide hB
      clear hB
      clear hk hp
      have e60 := actOf_get 65 g ([] : List Deferred) 60 (by omega) p60
      refine wpOp_let rfl rfl (by kernel_rfl) (by omega) pg ?_
      clear pg
      go_simp
      have hb := (Below.refl wr.heap.size wr).alloc (Nat.le_refl _) (.cells #[.int .i64 1, .int .i64 1] 56)
      exact hK _ _ hb (HB.out.grow hb) ⟨_, _, rfl, Rd_fresh bkc_len _ _ _ 1 [ba] rfl rfl (by decide) _ rfl⟩
    case o43 =>
      intro g wr hB hk hp K hK
      obtain ⟨a61, cap61, p61, r61⟩ : ∃ a cap, g 61 = .slice a 1 cap ∧ Rd 2 bkc wr a 1 [ba] := hp 42 (by kernel_rfl)
      have R61 := hide r61
      clear r61
      have pg : g 57 = .bool true := hp 38 (by kernel_rfl)
      have HB := hide hB
      clear hB
      clear hk hp
      have e61 := actOf_get 65 g ([] : List Deferred) 61 (by omega) p61
      refine wpOp_let rfl rfl (by kernel_rfl) (by omega) pg ?_
      clear pg
      go_simp
      go_at_call 34
      refine (SortedOne_calls _ _ _ _ R61.out).mono ?_
      rintro e w' ⟨v, rfl, ho, hb⟩
      obtain ⟨a2, cap2, hv, hr, _⟩ := ho.form bkc_len
      exact hK _ _ hb (HB.out.grow hb) ⟨a2, cap2, hv, hr⟩
    case o44 =>
      intro g wr hB hk hp K hK
      obtain ⟨a59, cap59, p59, r59⟩ : ∃ a cap, g 59 = .slice a 1 cap ∧ Rd 2 bkc wr a 1 [ba] := hp 40 (by kernel_rfl)
      have R59 := hide r59
      clear r59
      obtain ⟨a62, cap62, p62, r62⟩ : ∃ a cap, g 62 = .slice a 1 cap ∧ Rd 2 bkc wr a 1 [ba] := hp 43 (by kernel_rfl)
      have R62 := hide r62
      clear r62
      have pg : g 57 = .bool true := hp 38 (by kernel_rfl)
      have HB := hide hB
      clear hB
      clear hk hp
      have e59 := actOf_get 65 g ([] : List Deferred) 59 (by omega) p59
      have e62 := actOf_get 65 g ([] : List Deferred) 62 (by omega) p62
      refine wpOp_let rfl rfl (by kernel_rfl) (by omega) pg ?_
      clear pg
      go_simp
      go_at_call 45
      refine (Same_calls _ _ _ _ _ _ _ _ _ R59.out R62.out).mono ?_
      rintro e w' ⟨rfl, hb⟩
      exact hK _ _ hb (HB.out.grow hb) (by rfl)
    case o45 =>
      intro g wr hB hk hp K hK
      have p57 : g 57 = .bool true := hp 38 (by kernel_rfl)
      have p63 : g 63 = .bool true := hp 44 (by kernel_rfl)
      have HB := hide hB
      clear hB
      clear hk hp
      have e57 := actOf_get 65 g ([] : List Deferred) 57 (by omega) p57
      have e63 := actOf_get 65 g ([] : List Deferred) 63 (by omega) p63
      refine wpOp_free rfl rfl ?_
      go_simp
      exact hK _ _ (Below.refl _ _) HB.out (by first | rfl | simp)
    case o46 =>
      intro g wr hB hk hp K hK
      have p64 : g 64 = .bool true := hp 45 (by kernel_rfl)
      have HB := hide hB
      clear hB
      clear hk hp
      have e64 := actOf_get 65 g ([] : List Deferred) 64 (by omega) p64
      refine wpOp_free rfl rfl ?_
      go_simp
      exact hK _ _ (Below.refl _ _) HB.out (by first | rfl | simp)
    · exact hB5.grow (Below.refl _ _).drew
    · intro g wr hB hP
      have hp2 : g 0 = .bool true := hP 46 (by decide)
      clear hP
      simp only [putAll, Act.put, List.setIfInBounds_toArray, List.set_cons_zero, List.set_cons_succ]
      go_wp2
      go_ret
      exact ⟨congrArg Ending.returned hp2, hB.1⟩
end Go.Proofs.Ytiaifphidcfddaa
