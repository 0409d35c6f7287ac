/-
  PoolOut: the plain law, and the walk.
-/
import Derived.Test.YtiaifphidcfddaaLaw8o
import Derived.IntWalk
set_option linter.unusedVariables false
set_option linter.unusedSimpArgs false
namespace Go.Proofs.Ytiaifphidcfddaa
open Go.RowKit Go.Shelf

def PostOe (a a8 : Option Addr) (n cap m cap8 : Nat) (b1 b2 c1 c2 : Int) (B4 B5 : Nat) (zs us : List Bk) : Nat → Value → World → Prop
  | 0, v, w => v = .bool true
  | 1, v, w => v = .bool true
  | 2, v, w => v = .slice a8 m cap8
  | 3, v, w => v = .pointer (some ⟨B4, 0, none⟩)
  | 4, v, w => v = .int .i64 b1
  | 5, v, w => ∃ a cap, v = .slice a zs.length cap ∧ Rd 2 bkc w a zs.length zs
  | 6, v, w => v = .slice a n cap
  | 7, v, w => v = .pointer (some ⟨B4, 0, none⟩)
  | 8, v, w => v = .int .i64 b1
  | 9, v, w => ∃ a cap, v = .slice a zs.length cap ∧ Rd 2 bkc w a zs.length zs
  | 10, v, w => v = .bool true
  | 11, v, w => v = .bool true
  | 12, v, w => v = .bool true
  | 13, v, w => v = .pointer (some ⟨B4, 0, none⟩)
  | 14, v, w => v = .int .i64 b1
  | 15, v, w => v = .pointer (some ⟨B5, 0, none⟩)
  | 16, v, w => v = .int .i64 c1
  | 17, v, w => v = .bool false
  | 18, v, w => v = .bool false
  | 19, v, w => v = .slice a8 m cap8
  | 20, v, w => v = .agg #[.int .i64 c1, .int .i64 c2]
  | 21, v, w => ∃ a cap, v = .slice a us.length cap ∧ Rd 2 bkc w a us.length us
  | 22, v, w => v = .slice a n cap
  | 23, v, w => v = .agg #[.int .i64 c1, .int .i64 c2]
  | 24, v, w => ∃ a cap, v = .slice a us.length cap ∧ Rd 2 bkc w a us.length us
  | 25, v, w => v = .bool true
  | 26, v, w => v = .bool true
  | 27, v, w => v = .bool true
  | 28, v, w => v = .bool true
  | 29, v, w => v = .slice a8 m cap8
  | 30, v, w => v = .int .i64 (m : Int)
  | 31, v, w => v = .slice a n cap
  | 32, v, w => v = .int .i64 (n : Int)
  | 33, v, w => v = .int .i64 ((n : Int) + 1)
  | 34, v, w => v = .bool true
  | 35, v, w => v = .bool true
  | 36, v, w => v = .bool true
  | _, _, _ => True
theorem PostOe_st (a a8 : Option Addr) (n cap m cap8 : Nat) (b1 b2 c1 c2 : Int) (B4 B5 : Nat) (zs us : List Bk) (i : Nat) (v : Value) (w w' : World) (h : PostOe a a8 n cap m cap8 b1 b2 c1 c2 B4 B5 zs us i v w) (hb : Below w.heap.size w w') : PostOe a a8 n cap m cap8 b1 b2 c1 c2 B4 B5 zs us i v w' := by
  match i with
  | 0 => exact h
  | 1 => exact h
  | 2 => exact h
  | 3 => exact h
  | 4 => exact h
  | 5 => obtain ⟨a, c, h1, h2⟩ := h; exact ⟨a, c, h1, h2.below hb⟩
  | 6 => exact h
  | 7 => exact h
  | 8 => exact h
  | 9 => obtain ⟨a, c, h1, h2⟩ := h; exact ⟨a, c, h1, h2.below hb⟩
  | 10 => exact h
  | 11 => exact h
  | 12 => exact h
  | 13 => exact h
  | 14 => exact h
  | 15 => exact h
  | 16 => exact h
  | 17 => exact h
  | 18 => exact h
  | 19 => exact h
  | 20 => exact h
  | 21 => obtain ⟨a, c, h1, h2⟩ := h; exact ⟨a, c, h1, h2.below hb⟩
  | 22 => exact h
  | 23 => exact h
  | 24 => obtain ⟨a, c, h1, h2⟩ := h; exact ⟨a, c, h1, h2.below hb⟩
  | 25 => exact h
  | 26 => exact h
  | 27 => exact h
  | 28 => exact h
  | 29 => exact h
  | 30 => exact h
  | 31 => exact h
  | 32 => exact h
  | 33 => exact h
  | 34 => exact h
  | 35 => exact h
  | 36 => exact h
  | _ + 37 => trivial

set_option maxRecDepth 100000 in
set_option maxHeartbeats 4000000 in
theorem PoolOut_eq (a : Option Addr) (n cap m : Nat) (b1 b2 c1 c2 : Int) (xs ws zs us : List Bk) (w : World) (hr : Rd 2 bkc w a n xs) (hbig : n ≤ 60) (hm : m = ws.length) (hmn : m ≤ n + 1)
    (hw : withB xs (b1, b2) = ws) (hz1 : without ws b1 = zs) (hz2 : without xs b1 = zs) (hu1 : b1 = c1 → withB ws (c1, c2) = us) (hu2 : withB xs (c1, c2) = us) (hcb : b1 = c1) :
    Calls Try.prog 13 #[.slice a n cap, .agg #[.int .i64 b1, .int .i64 b2], .agg #[.int .i64 c1, .int .i64 c2]] w fun e w' => e = .returned (.bool true) ∧ Below w.heap.size w w' := by
  have hn : ¬ (60 : Int) < (n : Int) := by omega
  have hn2 := hr.le
  have hmn2 : (m : Int) ≤ (n : Int) + 1 := by omega
  have HR := hide hr
  have HW := hide hw
  have HM := hide hm
  have HZ1 := hide hz1
  have HZ2 := hide hz2
  have HU1 := hide (hu1 hcb)
  have hcb2 : (b1 != c1) = false := by simpa using hcb
  clear hcb
  have HU2 := hide hu2
  have hb0 : Below w.heap.size w ((w.alloc (.cells #[.int .i64 b1, .int .i64 b2] 56)).alloc (.cells #[.int .i64 c1, .int .i64 c2] 56)) := ((Below.refl _ w).alloc (Nat.le_refl _) _).alloc (by simp) _
  have HC0 := hide hb0
  clear hr hw hz1 hz2 hu1 hu2 hm hb0
  go_enter Try.func13, Try.ntmps13
  go_wp2_with (first
    | (go_at_call 32; refine (works_calls _).mono ?_; rintro e w1 ⟨rfl, hb⟩; have f41 := cell_later (p := ⟨w.heap.size, 0, none⟩) (v := .int .i64 b1) hb (by simp); have f42 := cell_later (p := ⟨w.heap.size, 1, none⟩) (v := .int .i64 b2) hb (by simp); have f51 := cell_later (p := ⟨w.heap.size + 1, 0, none⟩) (v := .int .i64 c1) hb (by simp); have f52 := cell_later (p := ⟨w.heap.size + 1, 1, none⟩) (v := .int .i64 c2) hb (by simp); have HC := hide (below_then HC0.out HC0.out.size hb); clear hb)
    | (go_at_call 36; refine (With_calls _ _ _ _ _ _ _ (HR.out.below HC.out) (by omega)).mono ?_; rintro e W1 ⟨v, rfl, ho, hb⟩; rw [HW.out] at ho; obtain ⟨a8, cap8, hv, hr8, _⟩ := ho.form bkc_len; rw [← HM.out] at hv hr8; subst hv; have HV := hide hr8; replace f41 := cell_later hb f41; replace f42 := cell_later hb f42; replace f51 := cell_later hb f51; replace f52 := cell_later hb f52; replace HC := hide (below_then HC.out HC.out.size hb); clear ho hr8 hb))
  replace HR := hide (HR.out.below HC.out)
  refine wp_region_grow 55 [19, 20, 21, 22, 23, 24, 25, 26, 27, 28, 29, 30, 31, 32, 33, 34, 35, 36, 37, 38, 39, 40, 41, 42, 43, 44, 45, 46, 47, 48, 49, 50, 51, 52, 53, 54, 6] (Below W1.heap.size W1) (PostOe a a8 n cap m cap8 b1 b2 c1 c2 w.heap.size (w.heap.size + 1) zs us) (by kernel_rfl) (by kernel_rfl) rfl (by kernel_rfl) (by kernel_rfl) (Below.refl _ _).drew (PostOe_st a a8 n cap m cap8 b1 b2 c1 c2 w.heap.size (w.heap.size + 1) zs us) ⟨⟨⟨⟨⟨⟨⟨⟨⟨⟨⟨⟨⟨⟨⟨⟨⟨⟨⟨⟨⟨⟨⟨⟨⟨⟨⟨⟨⟨⟨⟨⟨⟨⟨⟨⟨⟨trivial, ?o0⟩, ?o1⟩, ?o2⟩, ?o3⟩, ?o4⟩, ?o5⟩, ?o6⟩, ?o7⟩, ?o8⟩, ?o9⟩, ?o10⟩, ?o11⟩, ?o12⟩, ?o13⟩, ?o14⟩, ?o15⟩, ?o16⟩, ?o17⟩, ?o18⟩, ?o19⟩, ?o20⟩, ?o21⟩, ?o22⟩, ?o23⟩, ?o24⟩, ?o25⟩, ?o26⟩, ?o27⟩, ?o28⟩, ?o29⟩, ?o30⟩, ?o31⟩, ?o32⟩, ?o33⟩, ?o34⟩, ?o35⟩, ?o36⟩ ?_
  case o0 =>
    intro g wr hB hk hp K hK
    have p7 : g 7 = .bool true := Option.some.inj (hk 7 (by decide) (by kernel_rfl))
    have HB := hide hB
    clear hB hk hp
    have e7 := actOf_get 55 g ([] : List Deferred) 7 (by omega) p7
    refine wpOp_free rfl rfl ?_
    go_simp
    exact hK _ _ (Below.refl _ _) HB.out (by first | rfl | simp)
  case o1 =>
    intro g wr hB hk hp K hK
    have p19 : g 19 = .bool true := hp 0 (by kernel_rfl)
    have HB := hide hB
    clear hB hk hp
    have e19 := actOf_get 55 g ([] : List Deferred) 19 (by omega) p19
    refine wpOp_free rfl rfl ?_
    go_simp
    exact hK _ _ (Below.refl _ _) HB.out (by first | rfl | simp)
  case o2 =>
    intro g wr hB hk hp K hK
    have p8 : g 8 = .slice a8 m cap8 := Option.some.inj (hk 8 (by decide) (by kernel_rfl))
    have pg : g 20 = .bool true := hp 1 (by kernel_rfl)
    have HB := hide hB
    clear hB hk hp
    have e8 := actOf_get 55 g ([] : List Deferred) 8 (by omega) p8
    refine wpOp_let rfl rfl (by kernel_rfl) (by omega) pg ?_
    clear pg
    go_simp
    exact hK _ _ (Below.refl _ _) HB.out (by first | rfl | simp)
  case o3 =>
    intro g wr hB hk hp K hK
    have p4 : g 4 = .pointer (some ⟨w.heap.size, 0, none⟩) := Option.some.inj (hk 4 (by decide) (by kernel_rfl))
    have pg : g 20 = .bool true := hp 1 (by kernel_rfl)
    have HB := hide hB
    clear hB hk hp
    have e4 := actOf_get 55 g ([] : List Deferred) 4 (by omega) p4
    refine wpOp_let rfl rfl (by kernel_rfl) (by omega) pg ?_
    clear pg
    go_simp
    exact hK _ _ (Below.refl _ _) HB.out (by first | rfl | simp)
  case o4 =>
    intro g wr hB hk hp K hK
    have p22 : g 22 = .pointer (some ⟨w.heap.size, 0, none⟩) := hp 3 (by kernel_rfl)
    have pg : g 20 = .bool true := hp 1 (by kernel_rfl)
    have HB := hide hB
    clear hB hk hp
    have lc0 := cell_later HB.out f41
    have e22 := actOf_get 55 g ([] : List Deferred) 22 (by omega) p22
    refine wpOp_let rfl rfl (by kernel_rfl) (by omega) pg ?_
    clear pg
    go_simp
    exact hK _ _ (Below.refl _ _) HB.out (by first | rfl | simp)
  case o5 =>
    intro g wr hB hk hp K hK
    have p21 : g 21 = .slice a8 m cap8 := hp 2 (by kernel_rfl)
    have p23 : g 23 = .int .i64 b1 := hp 4 (by kernel_rfl)
    have pg : g 20 = .bool true := hp 1 (by kernel_rfl)
    have HB := hide hB
    clear hB hk hp
    have e21 := actOf_get 55 g ([] : List Deferred) 21 (by omega) p21
    have e23 := actOf_get 55 g ([] : List Deferred) 23 (by omega) p23
    refine wpOp_let rfl rfl (by kernel_rfl) (by omega) pg ?_
    clear pg
    go_simp
    go_at_call 38
    refine (Without_calls _ _ _ _ _ _ (HV.out.below HB.out) (by omega)).mono ?_
    rintro e w' ⟨v, rfl, ho, hb⟩
    rw [HZ1.out] at ho
    obtain ⟨a2, cap2, hv, hr, _⟩ := ho.form bkc_len
    exact hK _ _ hb (below_then HB.out HB.out.size hb) ⟨a2, cap2, hv, hr⟩
  case o6 =>
    intro g wr hB hk hp K hK
    have p0 : g 0 = .slice a n cap := Option.some.inj (hk 0 (by decide) (by kernel_rfl))
    have pg : g 20 = .bool true := hp 1 (by kernel_rfl)
    have HB := hide hB
    clear hB hk hp
    have e0 := actOf_get 55 g ([] : List Deferred) 0 (by omega) p0
    refine wpOp_let rfl rfl (by kernel_rfl) (by omega) pg ?_
    clear pg
    go_simp
    exact hK _ _ (Below.refl _ _) HB.out (by first | rfl | simp)
  case o7 =>
    intro g wr hB hk hp K hK
    have p4 : g 4 = .pointer (some ⟨w.heap.size, 0, none⟩) := Option.some.inj (hk 4 (by decide) (by kernel_rfl))
    have pg : g 20 = .bool true := hp 1 (by kernel_rfl)
    have HB := hide hB
    clear hB hk hp
    have e4 := actOf_get 55 g ([] : List Deferred) 4 (by omega) p4
    refine wpOp_let rfl rfl (by kernel_rfl) (by omega) pg ?_
    clear pg
    go_simp
    exact hK _ _ (Below.refl _ _) HB.out (by first | rfl | simp)
  case o8 =>
    intro g wr hB hk hp K hK
    have p26 : g 26 = .pointer (some ⟨w.heap.size, 0, none⟩) := hp 7 (by kernel_rfl)
    have pg : g 20 = .bool true := hp 1 (by kernel_rfl)
    have HB := hide hB
    clear hB hk hp
    have lc0 := cell_later HB.out f41
    have e26 := actOf_get 55 g ([] : List Deferred) 26 (by omega) p26
    refine wpOp_let rfl rfl (by kernel_rfl) (by omega) pg ?_
    clear pg
    go_simp
    exact hK _ _ (Below.refl _ _) HB.out (by first | rfl | simp)
  case o9 =>
    intro g wr hB hk hp K hK
    have p25 : g 25 = .slice a n cap := hp 6 (by kernel_rfl)
    have p27 : g 27 = .int .i64 b1 := hp 8 (by kernel_rfl)
    have pg : g 20 = .bool true := hp 1 (by kernel_rfl)
    have HB := hide hB
    clear hB hk hp
    have e25 := actOf_get 55 g ([] : List Deferred) 25 (by omega) p25
    have e27 := actOf_get 55 g ([] : List Deferred) 27 (by omega) p27
    refine wpOp_let rfl rfl (by kernel_rfl) (by omega) pg ?_
    clear pg
    go_simp
    go_at_call 38
    refine (Without_calls _ _ _ _ _ _ (HR.out.below HB.out) (by omega)).mono ?_
    rintro e w' ⟨v, rfl, ho, hb⟩
    rw [HZ2.out] at ho
    obtain ⟨a2, cap2, hv, hr, _⟩ := ho.form bkc_len
    exact hK _ _ hb (below_then HB.out HB.out.size hb) ⟨a2, cap2, hv, hr⟩
  case o10 =>
    intro g wr hB hk hp K hK
    obtain ⟨a24, cap24, p24, r24⟩ : ∃ a cap, g 24 = .slice a zs.length cap ∧ Rd 2 bkc wr a zs.length zs := hp 5 (by kernel_rfl)
    have R24 := hide r24
    clear r24
    obtain ⟨a28, cap28, p28, r28⟩ : ∃ a cap, g 28 = .slice a zs.length cap ∧ Rd 2 bkc wr a zs.length zs := hp 9 (by kernel_rfl)
    have R28 := hide r28
    clear r28
    have pg : g 20 = .bool true := hp 1 (by kernel_rfl)
    have HB := hide hB
    clear hB hk hp
    have e24 := actOf_get 55 g ([] : List Deferred) 24 (by omega) p24
    have e28 := actOf_get 55 g ([] : List Deferred) 28 (by omega) p28
    refine wpOp_let rfl rfl (by kernel_rfl) (by omega) pg ?_
    clear pg
    go_simp
    go_at_call 45
    refine (Same_calls _ _ _ _ _ _ _ _ _ R24.out R28.out).mono ?_
    rintro e w' ⟨rfl, hb⟩
    exact hK _ _ hb (below_then HB.out HB.out.size hb) (by rw [decide_eq_true rfl]; rfl)
  case o11 =>
    intro g wr hB hk hp K hK
    have p20 : g 20 = .bool true := hp 1 (by kernel_rfl)
    have p29 : g 29 = .bool true := hp 10 (by kernel_rfl)
    have HB := hide hB
    clear hB hk hp
    have e20 := actOf_get 55 g ([] : List Deferred) 20 (by omega) p20
    have e29 := actOf_get 55 g ([] : List Deferred) 29 (by omega) p29
    refine wpOp_free rfl rfl ?_
    go_simp
    exact hK _ _ (Below.refl _ _) HB.out (by first | rfl | simp)
  case o12 =>
    intro g wr hB hk hp K hK
    have p30 : g 30 = .bool true := hp 11 (by kernel_rfl)
    have HB := hide hB
    clear hB hk hp
    have e30 := actOf_get 55 g ([] : List Deferred) 30 (by omega) p30
    refine wpOp_free rfl rfl ?_
    go_simp
    exact hK _ _ (Below.refl _ _) HB.out (by first | rfl | simp)
  case o13 =>
    intro g wr hB hk hp K hK
    have p4 : g 4 = .pointer (some ⟨w.heap.size, 0, none⟩) := Option.some.inj (hk 4 (by decide) (by kernel_rfl))
    have pg : g 31 = .bool true := hp 12 (by kernel_rfl)
    have HB := hide hB
    clear hB hk hp
    have e4 := actOf_get 55 g ([] : List Deferred) 4 (by omega) p4
    refine wpOp_let rfl rfl (by kernel_rfl) (by omega) pg ?_
    clear pg
    go_simp
    exact hK _ _ (Below.refl _ _) HB.out (by first | rfl | simp)
  case o14 =>
    intro g wr hB hk hp K hK
    have p32 : g 32 = .pointer (some ⟨w.heap.size, 0, none⟩) := hp 13 (by kernel_rfl)
    have pg : g 31 = .bool true := hp 12 (by kernel_rfl)
    have HB := hide hB
    clear hB hk hp
    have lc0 := cell_later HB.out f41
    have e32 := actOf_get 55 g ([] : List Deferred) 32 (by omega) p32
    refine wpOp_let rfl rfl (by kernel_rfl) (by omega) pg ?_
    clear pg
    go_simp
    exact hK _ _ (Below.refl _ _) HB.out (by first | rfl | simp)
  case o15 =>
    intro g wr hB hk hp K hK
    have p5 : g 5 = .pointer (some ⟨w.heap.size + 1, 0, none⟩) := Option.some.inj (hk 5 (by decide) (by kernel_rfl))
    have pg : g 31 = .bool true := hp 12 (by kernel_rfl)
    have HB := hide hB
    clear hB hk hp
    have e5 := actOf_get 55 g ([] : List Deferred) 5 (by omega) p5
    refine wpOp_let rfl rfl (by kernel_rfl) (by omega) pg ?_
    clear pg
    go_simp
    exact hK _ _ (Below.refl _ _) HB.out (by first | rfl | simp)
  case o16 =>
    intro g wr hB hk hp K hK
    have p34 : g 34 = .pointer (some ⟨w.heap.size + 1, 0, none⟩) := hp 15 (by kernel_rfl)
    have pg : g 31 = .bool true := hp 12 (by kernel_rfl)
    have HB := hide hB
    clear hB hk hp
    have lc0 := cell_later HB.out f51
    have e34 := actOf_get 55 g ([] : List Deferred) 34 (by omega) p34
    refine wpOp_let rfl rfl (by kernel_rfl) (by omega) pg ?_
    clear pg
    go_simp
    exact hK _ _ (Below.refl _ _) HB.out (by first | rfl | simp)
  case o17 =>
    intro g wr hB hk hp K hK
    have p33 : g 33 = .int .i64 b1 := hp 14 (by kernel_rfl)
    have p35 : g 35 = .int .i64 c1 := hp 16 (by kernel_rfl)
    have pg : g 31 = .bool true := hp 12 (by kernel_rfl)
    have HB := hide hB
    clear hB hk hp
    have e33 := actOf_get 55 g ([] : List Deferred) 33 (by omega) p33
    have e35 := actOf_get 55 g ([] : List Deferred) 35 (by omega) p35
    refine wpOp_let rfl rfl (by kernel_rfl) (by omega) pg ?_
    clear pg
    go_simp
    exact hK _ _ (Below.refl _ _) HB.out (by first | rfl | simp)
  case o18 =>
    intro g wr hB hk hp K hK
    have p36 : g 36 = .bool false := hp 17 (by kernel_rfl)
    have pg : g 31 = .bool true := hp 12 (by kernel_rfl)
    have HB := hide hB
    clear hB hk hp
    have e36 := actOf_get 55 g ([] : List Deferred) 36 (by omega) p36
    refine wpOp_let rfl rfl (by kernel_rfl) (by omega) pg ?_
    clear pg
    go_simp
    exact hK _ _ (Below.refl _ _) HB.out (by first | rfl | simp)
  case o19 =>
    intro g wr hB hk hp K hK
    have p8 : g 8 = .slice a8 m cap8 := Option.some.inj (hk 8 (by decide) (by kernel_rfl))
    have pg : g 37 = .bool false := hp 18 (by kernel_rfl)
    have HB := hide hB
    clear hB hk hp
    have e8 := actOf_get 55 g ([] : List Deferred) 8 (by omega) p8
    refine wpOp_let rfl rfl (by kernel_rfl) (by omega) pg ?_
    clear pg
    go_simp
    exact hK _ _ (Below.refl _ _) HB.out (by first | rfl | simp)
  case o20 =>
    intro g wr hB hk hp K hK
    have p5 : g 5 = .pointer (some ⟨w.heap.size + 1, 0, none⟩) := Option.some.inj (hk 5 (by decide) (by kernel_rfl))
    have pg : g 37 = .bool false := hp 18 (by kernel_rfl)
    have HB := hide hB
    clear hB hk hp
    have lc0 := cell_later HB.out f51
    have lc1 := cell_later HB.out f52
    have e5 := actOf_get 55 g ([] : List Deferred) 5 (by omega) p5
    refine wpOp_let rfl rfl (by kernel_rfl) (by omega) pg ?_
    clear pg
    go_simp
    exact hK _ _ (Below.refl _ _) HB.out (by first | rfl | simp)
  case o21 =>
    intro g wr hB hk hp K hK
    have p38 : g 38 = .slice a8 m cap8 := hp 19 (by kernel_rfl)
    have p39 : g 39 = .agg #[.int .i64 c1, .int .i64 c2] := hp 20 (by kernel_rfl)
    have pg : g 37 = .bool false := hp 18 (by kernel_rfl)
    have HB := hide hB
    clear hB hk hp
    have e38 := actOf_get 55 g ([] : List Deferred) 38 (by omega) p38
    have e39 := actOf_get 55 g ([] : List Deferred) 39 (by omega) p39
    refine wpOp_let rfl rfl (by kernel_rfl) (by omega) pg ?_
    clear pg
    go_simp
    go_at_call 36
    refine (With_calls _ _ _ _ _ _ _ (HV.out.below HB.out) (by omega)).mono ?_
    rintro e w' ⟨v, rfl, ho, hb⟩
    rw [HU1.out] at ho
    obtain ⟨a2, cap2, hv, hr, _⟩ := ho.form bkc_len
    exact hK _ _ hb (below_then HB.out HB.out.size hb) ⟨a2, cap2, hv, hr⟩
  case o22 =>
    intro g wr hB hk hp K hK
    have p0 : g 0 = .slice a n cap := Option.some.inj (hk 0 (by decide) (by kernel_rfl))
    have pg : g 37 = .bool false := hp 18 (by kernel_rfl)
    have HB := hide hB
    clear hB hk hp
    have e0 := actOf_get 55 g ([] : List Deferred) 0 (by omega) p0
    refine wpOp_let rfl rfl (by kernel_rfl) (by omega) pg ?_
    clear pg
    go_simp
    exact hK _ _ (Below.refl _ _) HB.out (by first | rfl | simp)
  case o23 =>
    intro g wr hB hk hp K hK
    have p5 : g 5 = .pointer (some ⟨w.heap.size + 1, 0, none⟩) := Option.some.inj (hk 5 (by decide) (by kernel_rfl))
    have pg : g 37 = .bool false := hp 18 (by kernel_rfl)
    have HB := hide hB
    clear hB hk hp
    have lc0 := cell_later HB.out f51
    have lc1 := cell_later HB.out f52
    have e5 := actOf_get 55 g ([] : List Deferred) 5 (by omega) p5
    refine wpOp_let rfl rfl (by kernel_rfl) (by omega) pg ?_
    clear pg
    go_simp
    exact hK _ _ (Below.refl _ _) HB.out (by first | rfl | simp)
  case o24 =>
    intro g wr hB hk hp K hK
    have p41 : g 41 = .slice a n cap := hp 22 (by kernel_rfl)
    have p42 : g 42 = .agg #[.int .i64 c1, .int .i64 c2] := hp 23 (by kernel_rfl)
    have pg : g 37 = .bool false := hp 18 (by kernel_rfl)
    have HB := hide hB
    clear hB hk hp
    have e41 := actOf_get 55 g ([] : List Deferred) 41 (by omega) p41
    have e42 := actOf_get 55 g ([] : List Deferred) 42 (by omega) p42
    refine wpOp_let rfl rfl (by kernel_rfl) (by omega) pg ?_
    clear pg
    go_simp
    go_at_call 36
    refine (With_calls _ _ _ _ _ _ _ (HR.out.below HB.out) (by omega)).mono ?_
    rintro e w' ⟨v, rfl, ho, hb⟩
    rw [HU2.out] at ho
    obtain ⟨a2, cap2, hv, hr, _⟩ := ho.form bkc_len
    exact hK _ _ hb (below_then HB.out HB.out.size hb) ⟨a2, cap2, hv, hr⟩
  case o25 =>
    intro g wr hB hk hp K hK
    obtain ⟨a40, cap40, p40, r40⟩ : ∃ a cap, g 40 = .slice a us.length cap ∧ Rd 2 bkc wr a us.length us := hp 21 (by kernel_rfl)
    have R40 := hide r40
    clear r40
    obtain ⟨a43, cap43, p43, r43⟩ : ∃ a cap, g 43 = .slice a us.length cap ∧ Rd 2 bkc wr a us.length us := hp 24 (by kernel_rfl)
    have R43 := hide r43
    clear r43
    have pg : g 37 = .bool false := hp 18 (by kernel_rfl)
    have HB := hide hB
    clear hB hk hp
    have e40 := actOf_get 55 g ([] : List Deferred) 40 (by omega) p40
    have e43 := actOf_get 55 g ([] : List Deferred) 43 (by omega) p43
    refine wpOp_let rfl rfl (by kernel_rfl) (by omega) pg ?_
    clear pg
    go_simp
    go_at_call 45
    refine (Same_calls _ _ _ _ _ _ _ _ _ R40.out R43.out).mono ?_
    rintro e w' ⟨rfl, hb⟩
    exact hK _ _ hb (below_then HB.out HB.out.size hb) (by rw [decide_eq_true rfl]; rfl)
  case o26 =>
    intro g wr hB hk hp K hK
    have p37 : g 37 = .bool false := hp 18 (by kernel_rfl)
    have p44 : g 44 = .bool true := hp 25 (by kernel_rfl)
    have pg : g 31 = .bool true := hp 12 (by kernel_rfl)
    have HB := hide hB
    clear hB hk hp
    have e37 := actOf_get 55 g ([] : List Deferred) 37 (by omega) p37
    have e44 := actOf_get 55 g ([] : List Deferred) 44 (by omega) p44
    refine wpOp_let rfl rfl (by kernel_rfl) (by omega) pg ?_
    clear pg
    go_simp
    exact hK _ _ (Below.refl _ _) HB.out (by first | rfl | simp)
  case o27 =>
    intro g wr hB hk hp K hK
    have p31 : g 31 = .bool true := hp 12 (by kernel_rfl)
    have p45 : g 45 = .bool true := hp 26 (by kernel_rfl)
    have HB := hide hB
    clear hB hk hp
    have e31 := actOf_get 55 g ([] : List Deferred) 31 (by omega) p31
    have e45 := actOf_get 55 g ([] : List Deferred) 45 (by omega) p45
    refine wpOp_free rfl rfl ?_
    go_simp
    exact hK _ _ (Below.refl _ _) HB.out (by first | rfl | simp)
  case o28 =>
    intro g wr hB hk hp K hK
    have p46 : g 46 = .bool true := hp 27 (by kernel_rfl)
    have HB := hide hB
    clear hB hk hp
    have e46 := actOf_get 55 g ([] : List Deferred) 46 (by omega) p46
    refine wpOp_free rfl rfl ?_
    go_simp
    exact hK _ _ (Below.refl _ _) HB.out (by first | rfl | simp)
  case o29 =>
    intro g wr hB hk hp K hK
    have p8 : g 8 = .slice a8 m cap8 := Option.some.inj (hk 8 (by decide) (by kernel_rfl))
    have pg : g 47 = .bool true := hp 28 (by kernel_rfl)
    have HB := hide hB
    clear hB hk hp
    have e8 := actOf_get 55 g ([] : List Deferred) 8 (by omega) p8
    refine wpOp_let rfl rfl (by kernel_rfl) (by omega) pg ?_
    clear pg
    go_simp
    exact hK _ _ (Below.refl _ _) HB.out (by first | rfl | simp)
  case o30 =>
    intro g wr hB hk hp K hK
    have p48 : g 48 = .slice a8 m cap8 := hp 29 (by kernel_rfl)
    have pg : g 47 = .bool true := hp 28 (by kernel_rfl)
    have HB := hide hB
    clear hB hk hp
    have e48 := actOf_get 55 g ([] : List Deferred) 48 (by omega) p48
    refine wpOp_let rfl rfl (by kernel_rfl) (by omega) pg ?_
    clear pg
    go_simp
    exact hK _ _ (Below.refl _ _) HB.out (by first | rfl | simp)
  case o31 =>
    intro g wr hB hk hp K hK
    have p0 : g 0 = .slice a n cap := Option.some.inj (hk 0 (by decide) (by kernel_rfl))
    have pg : g 47 = .bool true := hp 28 (by kernel_rfl)
    have HB := hide hB
    clear hB hk hp
    have e0 := actOf_get 55 g ([] : List Deferred) 0 (by omega) p0
    refine wpOp_let rfl rfl (by kernel_rfl) (by omega) pg ?_
    clear pg
    go_simp
    exact hK _ _ (Below.refl _ _) HB.out (by first | rfl | simp)
  case o32 =>
    intro g wr hB hk hp K hK
    have p50 : g 50 = .slice a n cap := hp 31 (by kernel_rfl)
    have pg : g 47 = .bool true := hp 28 (by kernel_rfl)
    have HB := hide hB
    clear hB hk hp
    have e50 := actOf_get 55 g ([] : List Deferred) 50 (by omega) p50
    refine wpOp_let rfl rfl (by kernel_rfl) (by omega) pg ?_
    clear pg
    go_simp
    exact hK _ _ (Below.refl _ _) HB.out (by first | rfl | simp)
  case o33 =>
    intro g wr hB hk hp K hK
    have p51 : g 51 = .int .i64 (n : Int) := hp 32 (by kernel_rfl)
    have pg : g 47 = .bool true := hp 28 (by kernel_rfl)
    have HB := hide hB
    clear hB hk hp
    have e51 := actOf_get 55 g ([] : List Deferred) 51 (by omega) p51
    refine wpOp_let rfl rfl (by kernel_rfl) (by omega) pg ?_
    clear pg
    go_simp
    exact hK _ _ (Below.refl _ _) HB.out (congrArg (Value.int .i64) (IntWalk.i64_in _ (by omega)))
  case o34 =>
    intro g wr hB hk hp K hK
    have p49 : g 49 = .int .i64 (m : Int) := hp 30 (by kernel_rfl)
    have p52 : g 52 = .int .i64 ((n : Int) + 1) := hp 33 (by kernel_rfl)
    have pg : g 47 = .bool true := hp 28 (by kernel_rfl)
    have HB := hide hB
    clear hB hk hp
    have e49 := actOf_get 55 g ([] : List Deferred) 49 (by omega) p49
    have e52 := actOf_get 55 g ([] : List Deferred) 52 (by omega) p52
    refine wpOp_let rfl rfl (by kernel_rfl) (by omega) pg ?_
    clear pg
    go_simp
    exact hK _ _ (Below.refl _ _) HB.out (by first | rfl | simp)
  case o35 =>
    intro g wr hB hk hp K hK
    have p47 : g 47 = .bool true := hp 28 (by kernel_rfl)
    have p53 : g 53 = .bool true := hp 34 (by kernel_rfl)
    have HB := hide hB
    clear hB hk hp
    have e47 := actOf_get 55 g ([] : List Deferred) 47 (by omega) p47
    have e53 := actOf_get 55 g ([] : List Deferred) 53 (by omega) p53
    refine wpOp_free rfl rfl ?_
    go_simp
    exact hK _ _ (Below.refl _ _) HB.out (by first | rfl | simp)
  case o36 =>
    intro g wr hB hk hp K hK
    have p54 : g 54 = .bool true := hp 35 (by kernel_rfl)
    have HB := hide hB
    clear hB hk hp
    have e54 := actOf_get 55 g ([] : List Deferred) 54 (by omega) p54
    refine wpOp_free rfl rfl ?_
    go_simp
    exact hK _ _ (Below.refl _ _) HB.out (by first | rfl | simp)
  · intro g wr hB hP
    have hp2 : g 6 = .bool true := hP 36 (by decide)
    clear hP
    simp only [putAll, Act.put, List.setIfInBounds_toArray, List.set_cons_zero, List.set_cons_succ]
    go_wp2
    go_ret
    exact ⟨congrArg Ending.returned hp2, below_then HC.out HC.out.size hB⟩
def PostOn (a a8 : Option Addr) (n cap m cap8 : Nat) (b1 b2 c1 c2 : Int) (B4 B5 : Nat) (zs us : List Bk) : Nat → Value → World → Prop
  | 0, v, w => v = .bool true
  | 1, v, w => v = .bool true
  | 2, v, w => v = .slice a8 m cap8
  | 3, v, w => v = .pointer (some ⟨B4, 0, none⟩)
  | 4, v, w => v = .int .i64 b1
  | 5, v, w => ∃ a cap, v = .slice a zs.length cap ∧ Rd 2 bkc w a zs.length zs
  | 6, v, w => v = .slice a n cap
  | 7, v, w => v = .pointer (some ⟨B4, 0, none⟩)
  | 8, v, w => v = .int .i64 b1
  | 9, v, w => ∃ a cap, v = .slice a zs.length cap ∧ Rd 2 bkc w a zs.length zs
  | 10, v, w => v = .bool true
  | 11, v, w => v = .bool true
  | 12, v, w => v = .bool true
  | 13, v, w => v = .pointer (some ⟨B4, 0, none⟩)
  | 14, v, w => v = .int .i64 b1
  | 15, v, w => v = .pointer (some ⟨B5, 0, none⟩)
  | 16, v, w => v = .int .i64 c1
  | 17, v, w => v = .bool true
  | 18, v, w => v = .bool true
  | 19, v, w => v = undef
  | 20, v, w => v = undef
  | 21, v, w => v = undef
  | 22, v, w => v = undef
  | 23, v, w => v = undef
  | 24, v, w => v = undef
  | 25, v, w => v = undef
  | 26, v, w => v = .bool true
  | 27, v, w => v = .bool true
  | 28, v, w => v = .bool true
  | 29, v, w => v = .slice a8 m cap8
  | 30, v, w => v = .int .i64 (m : Int)
  | 31, v, w => v = .slice a n cap
  | 32, v, w => v = .int .i64 (n : Int)
  | 33, v, w => v = .int .i64 ((n : Int) + 1)
  | 34, v, w => v = .bool true
  | 35, v, w => v = .bool true
  | 36, v, w => v = .bool true
  | _, _, _ => True
theorem PostOn_st (a a8 : Option Addr) (n cap m cap8 : Nat) (b1 b2 c1 c2 : Int) (B4 B5 : Nat) (zs us : List Bk) (i : Nat) (v : Value) (w w' : World) (h : PostOn a a8 n cap m cap8 b1 b2 c1 c2 B4 B5 zs us i v w) (hb : Below w.heap.size w w') : PostOn a a8 n cap m cap8 b1 b2 c1 c2 B4 B5 zs us i v w' := by
  match i with
  | 0 => exact h
  | 1 => exact h
  | 2 => exact h
  | 3 => exact h
  | 4 => exact h
  | 5 => obtain ⟨a, c, h1, h2⟩ := h; exact ⟨a, c, h1, h2.below hb⟩
  | 6 => exact h
  | 7 => exact h
  | 8 => exact h
  | 9 => obtain ⟨a, c, h1, h2⟩ := h; exact ⟨a, c, h1, h2.below hb⟩
  | 10 => exact h
  | 11 => exact h
  | 12 => exact h
  | 13 => exact h
  | 14 => exact h
  | 15 => exact h
  | 16 => exact h
  | 17 => exact h
  | 18 => exact h
  | 19 => exact h
  | 20 => exact h
  | 21 => exact h
  | 22 => exact h
  | 23 => exact h
  | 24 => exact h
  | 25 => exact h
  | 26 => exact h
  | 27 => exact h
  | 28 => exact h
  | 29 => exact h
  | 30 => exact h
  | 31 => exact h
  | 32 => exact h
  | 33 => exact h
  | 34 => exact h
  | 35 => exact h
  | 36 => exact h
  | _ + 37 => trivial

set_option maxRecDepth 100000 in
set_option maxHeartbeats 4000000 in
theorem PoolOut_ne (a : Option Addr) (n cap m : Nat) (b1 b2 c1 c2 : Int) (xs ws zs us : List Bk) (w : World) (hr : Rd 2 bkc w a n xs) (hbig : n ≤ 60) (hm : m = ws.length) (hmn : m ≤ n + 1)
    (hw : withB xs (b1, b2) = ws) (hz1 : without ws b1 = zs) (hz2 : without xs b1 = zs) (hu1 : b1 = c1 → withB ws (c1, c2) = us) (hu2 : withB xs (c1, c2) = us) (hcb : b1 ≠ c1) :
    Calls Try.prog 13 #[.slice a n cap, .agg #[.int .i64 b1, .int .i64 b2], .agg #[.int .i64 c1, .int .i64 c2]] w fun e w' => e = .returned (.bool true) ∧ Below w.heap.size w w' := by
  have hn : ¬ (60 : Int) < (n : Int) := by omega
  have hn2 := hr.le
  have hmn2 : (m : Int) ≤ (n : Int) + 1 := by omega
  have HR := hide hr
  have HW := hide hw
  have HM := hide hm
  have HZ1 := hide hz1
  have HZ2 := hide hz2
  have hcb2 : (b1 != c1) = true := by simpa using hcb
  clear hcb
  have HU2 := hide hu2
  have hb0 : Below w.heap.size w ((w.alloc (.cells #[.int .i64 b1, .int .i64 b2] 56)).alloc (.cells #[.int .i64 c1, .int .i64 c2] 56)) := ((Below.refl _ w).alloc (Nat.le_refl _) _).alloc (by simp) _
  have HC0 := hide hb0
  clear hr hw hz1 hz2 hu1 hu2 hm hb0
  go_enter Try.func13, Try.ntmps13
  go_wp2_with (first
    | (go_at_call 32; refine (works_calls _).mono ?_; rintro e w1 ⟨rfl, hb⟩; have f41 := cell_later (p := ⟨w.heap.size, 0, none⟩) (v := .int .i64 b1) hb (by simp); have f42 := cell_later (p := ⟨w.heap.size, 1, none⟩) (v := .int .i64 b2) hb (by simp); have f51 := cell_later (p := ⟨w.heap.size + 1, 0, none⟩) (v := .int .i64 c1) hb (by simp); have f52 := cell_later (p := ⟨w.heap.size + 1, 1, none⟩) (v := .int .i64 c2) hb (by simp); have HC := hide (below_then HC0.out HC0.out.size hb); clear hb)
    | (go_at_call 36; refine (With_calls _ _ _ _ _ _ _ (HR.out.below HC.out) (by omega)).mono ?_; rintro e W1 ⟨v, rfl, ho, hb⟩; rw [HW.out] at ho; obtain ⟨a8, cap8, hv, hr8, _⟩ := ho.form bkc_len; rw [← HM.out] at hv hr8; subst hv; have HV := hide hr8; replace f41 := cell_later hb f41; replace f42 := cell_later hb f42; replace f51 := cell_later hb f51; replace f52 := cell_later hb f52; replace HC := hide (below_then HC.out HC.out.size hb); clear ho hr8 hb))
  replace HR := hide (HR.out.below HC.out)
  refine wp_region_grow 55 [19, 20, 21, 22, 23, 24, 25, 26, 27, 28, 29, 30, 31, 32, 33, 34, 35, 36, 37, 38, 39, 40, 41, 42, 43, 44, 45, 46, 47, 48, 49, 50, 51, 52, 53, 54, 6] (Below W1.heap.size W1) (PostOn a a8 n cap m cap8 b1 b2 c1 c2 w.heap.size (w.heap.size + 1) zs us) (by kernel_rfl) (by kernel_rfl) rfl (by kernel_rfl) (by kernel_rfl) (Below.refl _ _).drew (PostOn_st a a8 n cap m cap8 b1 b2 c1 c2 w.heap.size (w.heap.size + 1) zs us) ⟨⟨⟨⟨⟨⟨⟨⟨⟨⟨⟨⟨⟨⟨⟨⟨⟨⟨⟨⟨⟨⟨⟨⟨⟨⟨⟨⟨⟨⟨⟨⟨⟨⟨⟨⟨⟨trivial, ?o0⟩, ?o1⟩, ?o2⟩, ?o3⟩, ?o4⟩, ?o5⟩, ?o6⟩, ?o7⟩, ?o8⟩, ?o9⟩, ?o10⟩, ?o11⟩, ?o12⟩, ?o13⟩, ?o14⟩, ?o15⟩, ?o16⟩, ?o17⟩, ?o18⟩, ?o19⟩, ?o20⟩, ?o21⟩, ?o22⟩, ?o23⟩, ?o24⟩, ?o25⟩, ?o26⟩, ?o27⟩, ?o28⟩, ?o29⟩, ?o30⟩, ?o31⟩, ?o32⟩, ?o33⟩, ?o34⟩, ?o35⟩, ?o36⟩ ?_
  case o0 =>
    intro g wr hB hk hp K hK
    have p7 : g 7 = .bool true := Option.some.inj (hk 7 (by decide) (by kernel_rfl))
    have HB := hide hB
    clear hB hk hp
    have e7 := actOf_get 55 g ([] : List Deferred) 7 (by omega) p7
    refine wpOp_free rfl rfl ?_
    go_simp
    exact hK _ _ (Below.refl _ _) HB.out (by first | rfl | simp)
  case o1 =>
    intro g wr hB hk hp K hK
    have p19 : g 19 = .bool true := hp 0 (by kernel_rfl)
    have HB := hide hB
    clear hB hk hp
    have e19 := actOf_get 55 g ([] : List Deferred) 19 (by omega) p19
    refine wpOp_free rfl rfl ?_
    go_simp
    exact hK _ _ (Below.refl _ _) HB.out (by first | rfl | simp)
  case o2 =>
    intro g wr hB hk hp K hK
    have p8 : g 8 = .slice a8 m cap8 := Option.some.inj (hk 8 (by decide) (by kernel_rfl))
    have pg : g 20 = .bool true := hp 1 (by kernel_rfl)
    have HB := hide hB
    clear hB hk hp
    have e8 := actOf_get 55 g ([] : List Deferred) 8 (by omega) p8
    refine wpOp_let rfl rfl (by kernel_rfl) (by omega) pg ?_
    clear pg
    go_simp
    exact hK _ _ (Below.refl _ _) HB.out (by first | rfl | simp)
  case o3 =>
    intro g wr hB hk hp K hK
    have p4 : g 4 = .pointer (some ⟨w.heap.size, 0, none⟩) := Option.some.inj (hk 4 (by decide) (by kernel_rfl))
    have pg : g 20 = .bool true := hp 1 (by kernel_rfl)
    have HB := hide hB
    clear hB hk hp
    have e4 := actOf_get 55 g ([] : List Deferred) 4 (by omega) p4
    refine wpOp_let rfl rfl (by kernel_rfl) (by omega) pg ?_
    clear pg
    go_simp
    exact hK _ _ (Below.refl _ _) HB.out (by first | rfl | simp)
  case o4 =>
    intro g wr hB hk hp K hK
    have p22 : g 22 = .pointer (some ⟨w.heap.size, 0, none⟩) := hp 3 (by kernel_rfl)
    have pg : g 20 = .bool true := hp 1 (by kernel_rfl)
    have HB := hide hB
    clear hB hk hp
    have lc0 := cell_later HB.out f41
    have e22 := actOf_get 55 g ([] : List Deferred) 22 (by omega) p22
    refine wpOp_let rfl rfl (by kernel_rfl) (by omega) pg ?_
    clear pg
    go_simp
    exact hK _ _ (Below.refl _ _) HB.out (by first | rfl | simp)
  case o5 =>
    intro g wr hB hk hp K hK
    have p21 : g 21 = .slice a8 m cap8 := hp 2 (by kernel_rfl)
    have p23 : g 23 = .int .i64 b1 := hp 4 (by kernel_rfl)
    have pg : g 20 = .bool true := hp 1 (by kernel_rfl)
    have HB := hide hB
    clear hB hk hp
    have e21 := actOf_get 55 g ([] : List Deferred) 21 (by omega) p21
    have e23 := actOf_get 55 g ([] : List Deferred) 23 (by omega) p23
    refine wpOp_let rfl rfl (by kernel_rfl) (by omega) pg ?_
    clear pg
    go_simp
    go_at_call 38
    refine (Without_calls _ _ _ _ _ _ (HV.out.below HB.out) (by omega)).mono ?_
    rintro e w' ⟨v, rfl, ho, hb⟩
    rw [HZ1.out] at ho
    obtain ⟨a2, cap2, hv, hr, _⟩ := ho.form bkc_len
    exact hK _ _ hb (below_then HB.out HB.out.size hb) ⟨a2, cap2, hv, hr⟩
  case o6 =>
    intro g wr hB hk hp K hK
    have p0 : g 0 = .slice a n cap := Option.some.inj (hk 0 (by decide) (by kernel_rfl))
    have pg : g 20 = .bool true := hp 1 (by kernel_rfl)
    have HB := hide hB
    clear hB hk hp
    have e0 := actOf_get 55 g ([] : List Deferred) 0 (by omega) p0
    refine wpOp_let rfl rfl (by kernel_rfl) (by omega) pg ?_
    clear pg
    go_simp
    exact hK _ _ (Below.refl _ _) HB.out (by first | rfl | simp)
  case o7 =>
    intro g wr hB hk hp K hK
    have p4 : g 4 = .pointer (some ⟨w.heap.size, 0, none⟩) := Option.some.inj (hk 4 (by decide) (by kernel_rfl))
    have pg : g 20 = .bool true := hp 1 (by kernel_rfl)
    have HB := hide hB
    clear hB hk hp
    have e4 := actOf_get 55 g ([] : List Deferred) 4 (by omega) p4
    refine wpOp_let rfl rfl (by kernel_rfl) (by omega) pg ?_
    clear pg
    go_simp
    exact hK _ _ (Below.refl _ _) HB.out (by first | rfl | simp)
  case o8 =>
    intro g wr hB hk hp K hK
    have p26 : g 26 = .pointer (some ⟨w.heap.size, 0, none⟩) := hp 7 (by kernel_rfl)
    have pg : g 20 = .bool true := hp 1 (by kernel_rfl)
    have HB := hide hB
    clear hB hk hp
    have lc0 := cell_later HB.out f41
    have e26 := actOf_get 55 g ([] : List Deferred) 26 (by omega) p26
    refine wpOp_let rfl rfl (by kernel_rfl) (by omega) pg ?_
    clear pg
    go_simp
    exact hK _ _ (Below.refl _ _) HB.out (by first | rfl | simp)
  case o9 =>
    intro g wr hB hk hp K hK
    have p25 : g 25 = .slice a n cap := hp 6 (by kernel_rfl)
    have p27 : g 27 = .int .i64 b1 := hp 8 (by kernel_rfl)
    have pg : g 20 = .bool true := hp 1 (by kernel_rfl)
    have HB := hide hB
    clear hB hk hp
    have e25 := actOf_get 55 g ([] : List Deferred) 25 (by omega) p25
    have e27 := actOf_get 55 g ([] : List Deferred) 27 (by omega) p27
    refine wpOp_let rfl rfl (by kernel_rfl) (by omega) pg ?_
    clear pg
    go_simp
    go_at_call 38
    refine (Without_calls _ _ _ _ _ _ (HR.out.below HB.out) (by omega)).mono ?_
    rintro e w' ⟨v, rfl, ho, hb⟩
    rw [HZ2.out] at ho
    obtain ⟨a2, cap2, hv, hr, _⟩ := ho.form bkc_len
    exact hK _ _ hb (below_then HB.out HB.out.size hb) ⟨a2, cap2, hv, hr⟩
  case o10 =>
    intro g wr hB hk hp K hK
    obtain ⟨a24, cap24, p24, r24⟩ : ∃ a cap, g 24 = .slice a zs.length cap ∧ Rd 2 bkc wr a zs.length zs := hp 5 (by kernel_rfl)
    have R24 := hide r24
    clear r24
    obtain ⟨a28, cap28, p28, r28⟩ : ∃ a cap, g 28 = .slice a zs.length cap ∧ Rd 2 bkc wr a zs.length zs := hp 9 (by kernel_rfl)
    have R28 := hide r28
    clear r28
    have pg : g 20 = .bool true := hp 1 (by kernel_rfl)
    have HB := hide hB
    clear hB hk hp
    have e24 := actOf_get 55 g ([] : List Deferred) 24 (by omega) p24
    have e28 := actOf_get 55 g ([] : List Deferred) 28 (by omega) p28
    refine wpOp_let rfl rfl (by kernel_rfl) (by omega) pg ?_
    clear pg
    go_simp
    go_at_call 45
    refine (Same_calls _ _ _ _ _ _ _ _ _ R24.out R28.out).mono ?_
    rintro e w' ⟨rfl, hb⟩
    exact hK _ _ hb (below_then HB.out HB.out.size hb) (by rw [decide_eq_true rfl]; rfl)
  case o11 =>
    intro g wr hB hk hp K hK
    have p20 : g 20 = .bool true := hp 1 (by kernel_rfl)
    have p29 : g 29 = .bool true := hp 10 (by kernel_rfl)
    have HB := hide hB
    clear hB hk hp
    have e20 := actOf_get 55 g ([] : List Deferred) 20 (by omega) p20
    have e29 := actOf_get 55 g ([] : List Deferred) 29 (by omega) p29
    refine wpOp_free rfl rfl ?_
    go_simp
    exact hK _ _ (Below.refl _ _) HB.out (by first | rfl | simp)
  case o12 =>
    intro g wr hB hk hp K hK
    have p30 : g 30 = .bool true := hp 11 (by kernel_rfl)
    have HB := hide hB
    clear hB hk hp
    have e30 := actOf_get 55 g ([] : List Deferred) 30 (by omega) p30
    refine wpOp_free rfl rfl ?_
    go_simp
    exact hK _ _ (Below.refl _ _) HB.out (by first | rfl | simp)
  case o13 =>
    intro g wr hB hk hp K hK
    have p4 : g 4 = .pointer (some ⟨w.heap.size, 0, none⟩) := Option.some.inj (hk 4 (by decide) (by kernel_rfl))
    have pg : g 31 = .bool true := hp 12 (by kernel_rfl)
    have HB := hide hB
    clear hB hk hp
    have e4 := actOf_get 55 g ([] : List Deferred) 4 (by omega) p4
    refine wpOp_let rfl rfl (by kernel_rfl) (by omega) pg ?_
    clear pg
    go_simp
    exact hK _ _ (Below.refl _ _) HB.out (by first | rfl | simp)
  case o14 =>
    intro g wr hB hk hp K hK
    have p32 : g 32 = .pointer (some ⟨w.heap.size, 0, none⟩) := hp 13 (by kernel_rfl)
    have pg : g 31 = .bool true := hp 12 (by kernel_rfl)
    have HB := hide hB
    clear hB hk hp
    have lc0 := cell_later HB.out f41
    have e32 := actOf_get 55 g ([] : List Deferred) 32 (by omega) p32
    refine wpOp_let rfl rfl (by kernel_rfl) (by omega) pg ?_
    clear pg
    go_simp
    exact hK _ _ (Below.refl _ _) HB.out (by first | rfl | simp)
  case o15 =>
    intro g wr hB hk hp K hK
    have p5 : g 5 = .pointer (some ⟨w.heap.size + 1, 0, none⟩) := Option.some.inj (hk 5 (by decide) (by kernel_rfl))
    have pg : g 31 = .bool true := hp 12 (by kernel_rfl)
    have HB := hide hB
    clear hB hk hp
    have e5 := actOf_get 55 g ([] : List Deferred) 5 (by omega) p5
    refine wpOp_let rfl rfl (by kernel_rfl) (by omega) pg ?_
    clear pg
    go_simp
    exact hK _ _ (Below.refl _ _) HB.out (by first | rfl | simp)
  case o16 =>
    intro g wr hB hk hp K hK
    have p34 : g 34 = .pointer (some ⟨w.heap.size + 1, 0, none⟩) := hp 15 (by kernel_rfl)
    have pg : g 31 = .bool true := hp 12 (by kernel_rfl)
    have HB := hide hB
    clear hB hk hp
    have lc0 := cell_later HB.out f51
    have e34 := actOf_get 55 g ([] : List Deferred) 34 (by omega) p34
    refine wpOp_let rfl rfl (by kernel_rfl) (by omega) pg ?_
    clear pg
    go_simp
    exact hK _ _ (Below.refl _ _) HB.out (by first | rfl | simp)
  case o17 =>
    intro g wr hB hk hp K hK
    have p33 : g 33 = .int .i64 b1 := hp 14 (by kernel_rfl)
    have p35 : g 35 = .int .i64 c1 := hp 16 (by kernel_rfl)
    have pg : g 31 = .bool true := hp 12 (by kernel_rfl)
    have HB := hide hB
    clear hB hk hp
    have e33 := actOf_get 55 g ([] : List Deferred) 33 (by omega) p33
    have e35 := actOf_get 55 g ([] : List Deferred) 35 (by omega) p35
    refine wpOp_let rfl rfl (by kernel_rfl) (by omega) pg ?_
    clear pg
    go_simp
    exact hK _ _ (Below.refl _ _) HB.out (by first | rfl | simp)
  case o18 =>
    intro g wr hB hk hp K hK
    have p36 : g 36 = .bool true := hp 17 (by kernel_rfl)
    have pg : g 31 = .bool true := hp 12 (by kernel_rfl)
    have HB := hide hB
    clear hB hk hp
    have e36 := actOf_get 55 g ([] : List Deferred) 36 (by omega) p36
    refine wpOp_let rfl rfl (by kernel_rfl) (by omega) pg ?_
    clear pg
    go_simp
    exact hK _ _ (Below.refl _ _) HB.out (by first | rfl | simp)
  case o19 =>
    intro g wr hB hk hp K hK
    have pg : g 37 = .bool true := hp 18 (by kernel_rfl)
    exact wpOp_bar rfl rfl (by kernel_rfl) (by omega) pg (by decide) (hK undef wr (Below.refl _ _) hB rfl)
  case o20 =>
    intro g wr hB hk hp K hK
    have pg : g 37 = .bool true := hp 18 (by kernel_rfl)
    exact wpOp_bar rfl rfl (by kernel_rfl) (by omega) pg (by decide) (hK undef wr (Below.refl _ _) hB rfl)
  case o21 =>
    intro g wr hB hk hp K hK
    have pg : g 37 = .bool true := hp 18 (by kernel_rfl)
    exact wpOp_bar rfl rfl (by kernel_rfl) (by omega) pg (by decide) (hK undef wr (Below.refl _ _) hB rfl)
  case o22 =>
    intro g wr hB hk hp K hK
    have pg : g 37 = .bool true := hp 18 (by kernel_rfl)
    exact wpOp_bar rfl rfl (by kernel_rfl) (by omega) pg (by decide) (hK undef wr (Below.refl _ _) hB rfl)
  case o23 =>
    intro g wr hB hk hp K hK
    have pg : g 37 = .bool true := hp 18 (by kernel_rfl)
    exact wpOp_bar rfl rfl (by kernel_rfl) (by omega) pg (by decide) (hK undef wr (Below.refl _ _) hB rfl)
  case o24 =>
    intro g wr hB hk hp K hK
    have pg : g 37 = .bool true := hp 18 (by kernel_rfl)
    exact wpOp_bar rfl rfl (by kernel_rfl) (by omega) pg (by decide) (hK undef wr (Below.refl _ _) hB rfl)
  case o25 =>
    intro g wr hB hk hp K hK
    have pg : g 37 = .bool true := hp 18 (by kernel_rfl)
    exact wpOp_bar rfl rfl (by kernel_rfl) (by omega) pg (by decide) (hK undef wr (Below.refl _ _) hB rfl)
  case o26 =>
    intro g wr hB hk hp K hK
    have p37 : g 37 = .bool true := hp 18 (by kernel_rfl)
    have p44 : g 44 = undef := hp 25 (by kernel_rfl)
    have pg : g 31 = .bool true := hp 12 (by kernel_rfl)
    have HB := hide hB
    clear hB hk hp
    have e37 := actOf_get 55 g ([] : List Deferred) 37 (by omega) p37
    have e44 := actOf_get 55 g ([] : List Deferred) 44 (by omega) p44
    refine wpOp_let rfl rfl (by kernel_rfl) (by omega) pg ?_
    clear pg
    go_simp
    exact hK _ _ (Below.refl _ _) HB.out (by first | rfl | simp)
  case o27 =>
    intro g wr hB hk hp K hK
    have p31 : g 31 = .bool true := hp 12 (by kernel_rfl)
    have p45 : g 45 = .bool true := hp 26 (by kernel_rfl)
    have HB := hide hB
    clear hB hk hp
    have e31 := actOf_get 55 g ([] : List Deferred) 31 (by omega) p31
    have e45 := actOf_get 55 g ([] : List Deferred) 45 (by omega) p45
    refine wpOp_free rfl rfl ?_
    go_simp
    exact hK _ _ (Below.refl _ _) HB.out (by first | rfl | simp)
  case o28 =>
    intro g wr hB hk hp K hK
    have p46 : g 46 = .bool true := hp 27 (by kernel_rfl)
    have HB := hide hB
    clear hB hk hp
    have e46 := actOf_get 55 g ([] : List Deferred) 46 (by omega) p46
    refine wpOp_free rfl rfl ?_
    go_simp
    exact hK _ _ (Below.refl _ _) HB.out (by first | rfl | simp)
  case o29 =>
    intro g wr hB hk hp K hK
    have p8 : g 8 = .slice a8 m cap8 := Option.some.inj (hk 8 (by decide) (by kernel_rfl))
    have pg : g 47 = .bool true := hp 28 (by kernel_rfl)
    have HB := hide hB
    clear hB hk hp
    have e8 := actOf_get 55 g ([] : List Deferred) 8 (by omega) p8
    refine wpOp_let rfl rfl (by kernel_rfl) (by omega) pg ?_
    clear pg
    go_simp
    exact hK _ _ (Below.refl _ _) HB.out (by first | rfl | simp)
  case o30 =>
    intro g wr hB hk hp K hK
    have p48 : g 48 = .slice a8 m cap8 := hp 29 (by kernel_rfl)
    have pg : g 47 = .bool true := hp 28 (by kernel_rfl)
    have HB := hide hB
    clear hB hk hp
    have e48 := actOf_get 55 g ([] : List Deferred) 48 (by omega) p48
    refine wpOp_let rfl rfl (by kernel_rfl) (by omega) pg ?_
    clear pg
    go_simp
    exact hK _ _ (Below.refl _ _) HB.out (by first | rfl | simp)
  case o31 =>
    intro g wr hB hk hp K hK
    have p0 : g 0 = .slice a n cap := Option.some.inj (hk 0 (by decide) (by kernel_rfl))
    have pg : g 47 = .bool true := hp 28 (by kernel_rfl)
    have HB := hide hB
    clear hB hk hp
    have e0 := actOf_get 55 g ([] : List Deferred) 0 (by omega) p0
    refine wpOp_let rfl rfl (by kernel_rfl) (by omega) pg ?_
    clear pg
    go_simp
    exact hK _ _ (Below.refl _ _) HB.out (by first | rfl | simp)
  case o32 =>
    intro g wr hB hk hp K hK
    have p50 : g 50 = .slice a n cap := hp 31 (by kernel_rfl)
    have pg : g 47 = .bool true := hp 28 (by kernel_rfl)
    have HB := hide hB
    clear hB hk hp
    have e50 := actOf_get 55 g ([] : List Deferred) 50 (by omega) p50
    refine wpOp_let rfl rfl (by kernel_rfl) (by omega) pg ?_
    clear pg
    go_simp
    exact hK _ _ (Below.refl _ _) HB.out (by first | rfl | simp)
  case o33 =>
    intro g wr hB hk hp K hK
    have p51 : g 51 = .int .i64 (n : Int) := hp 32 (by kernel_rfl)
    have pg : g 47 = .bool true := hp 28 (by kernel_rfl)
    have HB := hide hB
    clear hB hk hp
    have e51 := actOf_get 55 g ([] : List Deferred) 51 (by omega) p51
    refine wpOp_let rfl rfl (by kernel_rfl) (by omega) pg ?_
    clear pg
    go_simp
    exact hK _ _ (Below.refl _ _) HB.out (congrArg (Value.int .i64) (IntWalk.i64_in _ (by omega)))
  case o34 =>
    intro g wr hB hk hp K hK
    have p49 : g 49 = .int .i64 (m : Int) := hp 30 (by kernel_rfl)
    have p52 : g 52 = .int .i64 ((n : Int) + 1) := hp 33 (by kernel_rfl)
    have pg : g 47 = .bool true := hp 28 (by kernel_rfl)
    have HB := hide hB
    clear hB hk hp
    have e49 := actOf_get 55 g ([] : List Deferred) 49 (by omega) p49
    have e52 := actOf_get 55 g ([] : List Deferred) 52 (by omega) p52
    refine wpOp_let rfl rfl (by kernel_rfl) (by omega) pg ?_
    clear pg
    go_simp
    exact hK _ _ (Below.refl _ _) HB.out (by first | rfl | simp)
  case o35 =>
    intro g wr hB hk hp K hK
    have p47 : g 47 = .bool true := hp 28 (by kernel_rfl)
    have p53 : g 53 = .bool true := hp 34 (by kernel_rfl)
    have HB := hide hB
    clear hB hk hp
    have e47 := actOf_get 55 g ([] : List Deferred) 47 (by omega) p47
    have e53 := actOf_get 55 g ([] : List Deferred) 53 (by omega) p53
    refine wpOp_free rfl rfl ?_
    go_simp
    exact hK _ _ (Below.refl _ _) HB.out (by first | rfl | simp)
  case o36 =>
    intro g wr hB hk hp K hK
    have p54 : g 54 = .bool true := hp 35 (by kernel_rfl)
    have HB := hide hB
    clear hB hk hp
    have e54 := actOf_get 55 g ([] : List Deferred) 54 (by omega) p54
    refine wpOp_free rfl rfl ?_
    go_simp
    exact hK _ _ (Below.refl _ _) HB.out (by first | rfl | simp)
  · intro g wr hB hP
    have hp2 : g 6 = .bool true := hP 36 (by decide)
    clear hP
    simp only [putAll, Act.put, List.setIfInBounds_toArray, List.set_cons_zero, List.set_cons_succ]
    go_wp2
    go_ret
    exact ⟨congrArg Ending.returned hp2, below_then HC.out HC.out.size hB⟩
end Go.Proofs.Ytiaifphidcfddaa
