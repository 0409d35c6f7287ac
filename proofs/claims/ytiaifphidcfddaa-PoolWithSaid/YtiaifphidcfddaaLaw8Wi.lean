/-
  PoolWith's walk.
-/
import Derived.Test.YtiaifphidcfddaaLaw8With
set_option linter.unusedVariables false
set_option linter.unusedSimpArgs false
namespace Go.Proofs.Ytiaifphidcfddaa
open Go.RowKit Go.Shelf

def PostWn (a : Option Addr) (n cap b8 m cap8 k : Nat) (b1 b2 id fx fy : Int) (q : Bool) (B4 : Nat) : Nat → Value → World → Prop
  | 0, v, w => v = .int .i64 (k : Int)
  | 1, v, w => v = .bool false
  | 2, v, w => v = .bool false
  | 3, v, w => v = .int .i64 (k : Int)
  | 4, v, w => v = .slice (some ⟨b8, 0, none⟩) m cap8
  | 5, v, w => v = .int .i64 (m : Int)
  | 6, v, w => v = .bool false
  | 7, v, w => v = .bool false
  | 8, v, w => v = .bool false
  | 9, v, w => v = .slice (some ⟨b8, 0, none⟩) m cap8
  | 10, v, w => v = .int .i64 (k : Int)
  | 11, v, w => v = .pointer (some ⟨b8, k * 2, none⟩)
  | 12, v, w => v = .agg #[.int .i64 b1, .int .i64 b2]
  | 13, v, w => v = .agg #[.int .i64 b1, .int .i64 b2]
  | 14, v, w => v = .bool false
  | 15, v, w => v = .bool false
  | 16, v, w => v = .bool false
  | 17, v, w => v = .int .i64 id
  | 18, v, w => v = .pointer (some ⟨B4, 0, none⟩)
  | 19, v, w => v = .int .i64 b1
  | 20, v, w => v = .bool true
  | 21, v, w => v = .bool true
  | 22, v, w => v = .slice (some ⟨b8, 0, none⟩) m cap8
  | 23, v, w => v = .int .i64 id
  | 24, v, w => v = .int .i64 fy
  | 25, v, w => v = .bool q
  | 26, v, w => v = .slice a n cap
  | 27, v, w => v = .int .i64 id
  | 28, v, w => v = .int .i64 fx
  | 29, v, w => v = .bool q
  | 30, v, w => v = .bool false
  | 31, v, w => v = .bool false
  | 32, v, w => v = .bool false
  | _, _, _ => True
theorem PostWn_st (a : Option Addr) (n cap b8 m cap8 k : Nat) (b1 b2 id fx fy : Int) (q : Bool) (B4 : Nat) (i : Nat) (v : Value) (w w' : World) (h : PostWn a n cap b8 m cap8 k b1 b2 id fx fy q B4 i v w) (hb : Below w.heap.size w w') : PostWn a n cap b8 m cap8 k b1 b2 id fx fy q B4 i v w' := by
  match i with
  | 0 => exact h
  | 1 => exact h
  | 2 => exact h
  | 3 => exact h
  | 4 => exact h
  | 5 => exact h
  | 6 => exact h
  | 7 => exact h
  | 8 => exact h
  | 9 => exact h
  | 10 => exact h
  | 11 => exact h
  | 12 => exact h
  | 13 => exact h
  | 14 => exact h
  | 15 => exact h
  | 16 => exact h
  | 17 => exact h
  | 18 => exact h
  | 19 => exact h
  | 20 => exact h
  | 21 => exact h
  | 22 => exact h
  | 23 => exact h
  | 24 => exact h
  | 25 => exact h
  | 26 => exact h
  | 27 => exact h
  | 28 => exact h
  | 29 => exact h
  | 30 => exact h
  | 31 => exact h
  | 32 => exact h
  | _ + 33 => trivial

set_option maxRecDepth 100000 in
set_option maxHeartbeats 4000000 in
theorem PoolWith_ne (a : Option Addr) (n cap m k : Nat) (b1 b2 id fx fy cx cy : Int) (q : Bool) (xs ws : List Bk) (w : World) (hr : Rd 2 bkc w a n xs) (hwf : Wf xs) (hbig : n ≤ 60) (hm : m = ws.length) (hmn : m ≤ n + 1)
    (hw : withB xs (b1, b2) = ws) (hww : withB ws (b1, b2) = ws) (hwf2 : Wf ws) (hk : find ws b1 = k) (hkw : ws[k]? = some (b1, b2)) (hfx : find xs id = fx) (hfy : find ws id = fy) (hcx : check xs = cx) (hcy : check ws = cy)
    (hqx : decide (0 ≤ fx) = q) (hqy : id ≠ b1 → decide (0 ≤ fy) = q) (hall : cx ≠ 0 ∨ (cx = 0 ∧ cy = 0 ∧ 1 ≤ b1 ∧ b1 ≤ 65535 ∧ 1 ≤ b2 ∧ b2 ≤ 16 ∧ m ≤ 32) ∨ (cx = 0 ∧ cy ≠ 0 ∧ ¬ (1 ≤ b1 ∧ b1 ≤ 65535 ∧ 1 ≤ b2 ∧ b2 ≤ 16 ∧ m ≤ 32))) (hcb : id ≠ b1) :
    Calls Try.prog 9 #[.slice a n cap, .agg #[.int .i64 b1, .int .i64 b2], .int .i64 id] w fun e w' => e = .returned (.bool true) ∧ Below w.heap.size w w' := by
  have hn : ¬ (60 : Int) < (n : Int) := by omega
  have hn2 := hr.le
  have hkm : k < m := by rw [hm]; exact (List.getElem?_eq_some_iff.1 hkw).1
  have hkm2 : (k : Int) < (m : Int) := by omega
  have hk0 : ¬ (k : Int) < 0 := by omega
  have hk1 : (0 : Int) ≤ (k : Int) := by omega
  have hm9 : (m : Int) ≤ 61 := by omega
  have HR := hide hr
  have HW := hide hw
  have HM := hide hm
  have HWW := hide hww
  have HWF := hide hwf
  have HWF2 := hide hwf2
  have HK := hide hk
  have HKW := hide hkw
  have HX := hide hfx
  have HY := hide hfy
  have HCX := hide hcx
  have HCY := hide hcy
  have HQX := hide hqx
  have HQY := hide (hqy hcb)
  have hcb2 : (id != b1) = true := by simpa using hcb
  clear hcb
  have hb0 : Below w.heap.size w (w.alloc (.cells #[.int .i64 b1, .int .i64 b2] 56)) := (Below.refl _ w).alloc (Nat.le_refl _) _
  have HC0 := hide hb0
  have HALL := hide hall
  clear hr hw hww hwf hwf2 hk hkw hfx hfy hcx hcy hqx hqy hm hb0 hall
  go_enter Try.func9, Try.ntmps9
  go_wp2_with (first
    | (go_at_call 32; refine (works_calls _).mono ?_; rintro e w1 ⟨rfl, hb⟩; have f41 := cell_later (p := ⟨w.heap.size, 0, none⟩) (v := .int .i64 b1) hb (by simp); have f42 := cell_later (p := ⟨w.heap.size, 1, none⟩) (v := .int .i64 b2) hb (by simp); have HC := hide (below_then HC0.out HC0.out.size hb); clear hb)
    | (go_at_call 36; refine (With_calls _ _ _ _ _ _ _ (HR.out.below HC.out) (by omega)).mono ?_; rintro e W0 ⟨v, rfl, ho, hb⟩; rw [HW.out] at ho; obtain ⟨a8, cap8, hv, hr8, hrow⟩ := ho.form bkc_len; rw [← HM.out] at hv hr8; subst hv; have HV := hide hr8; have HRO := hide hrow; replace f41 := cell_later hb f41; replace f42 := cell_later hb f42; replace HC := hide (below_then HC.out HC.out.size hb); clear ho hr8 hb hrow)
    | (go_at_call 29; refine (Find_calls _ _ _ _ _ _ HV.out).mono ?_; rintro e W1 ⟨rfl, hb⟩; rw [HK.out]; replace HV := hide (HV.out.below hb); replace f41 := cell_later hb f41; replace f42 := cell_later hb f42; replace HC := hide (below_then HC.out HC.out.size hb); clear hb))
  obtain ⟨b8, off8, x1, x2, ha8, hx8, hb8, c81, c82⟩ := HV.out.at_bk k hkm
  obtain ⟨e1, e2⟩ : x1 = b1 ∧ x2 = b2 := by have := hx8.symm.trans HKW.out; simpa using this
  rw [e1] at c81
  rw [e2] at c82
  clear e1 e2
  have ho8 := (HRO.out _ ha8).2.1
  simp only at ho8
  subst ho8 ha8
  simp only [Nat.zero_add] at c81 c82
  clear hx8 HRO
  replace HR := hide (HR.out.below HC.out)
  refine wp_region_grow 101 [25, 26, 27, 28, 29, 30, 31, 32, 33, 34, 35, 36, 37, 38, 39, 40, 41, 42, 43, 44, 45, 46, 47, 48, 49, 50, 51, 52, 53, 54, 55, 56, 57] (Below W1.heap.size W1) (PostWn a n cap b8 m cap8 k b1 b2 id fx fy q w.heap.size) (by kernel_rfl) (by kernel_rfl) rfl (by kernel_rfl) (by kernel_rfl) (Below.refl _ _).drew (PostWn_st a n cap b8 m cap8 k b1 b2 id fx fy q w.heap.size) ⟨⟨⟨⟨⟨⟨⟨⟨⟨⟨⟨⟨⟨⟨⟨⟨⟨⟨⟨⟨⟨⟨⟨⟨⟨⟨⟨⟨⟨⟨⟨⟨⟨trivial, ?o0⟩, ?o1⟩, ?o2⟩, ?o3⟩, ?o4⟩, ?o5⟩, ?o6⟩, ?o7⟩, ?o8⟩, ?o9⟩, ?o10⟩, ?o11⟩, ?o12⟩, ?o13⟩, ?o14⟩, ?o15⟩, ?o16⟩, ?o17⟩, ?o18⟩, ?o19⟩, ?o20⟩, ?o21⟩, ?o22⟩, ?o23⟩, ?o24⟩, ?o25⟩, ?o26⟩, ?o27⟩, ?o28⟩, ?o29⟩, ?o30⟩, ?o31⟩, ?o32⟩ ?_
  case o0 =>
    intro g wr hB hk hp K hK
    have p9 : g 9 = .int .i64 (k : Int) := Option.some.inj (hk 9 (by decide) (by kernel_rfl))
    have HB := hide hB
    clear hB hk hp
    have e9 := actOf_get 101 g ([] : List Deferred) 9 (by omega) p9
    refine wpOp_free rfl rfl ?_
    go_simp
    exact hK _ _ (Below.refl _ _) HB.out (by first | rfl | simp)
  case o1 =>
    intro g wr hB hk hp K hK
    have p25 : g 25 = .int .i64 (k : Int) := hp 0 (by kernel_rfl)
    have HB := hide hB
    clear hB hk hp
    have e25 := actOf_get 101 g ([] : List Deferred) 25 (by omega) p25
    refine wpOp_free rfl rfl ?_
    go_simp
    exact hK _ _ (Below.refl _ _) HB.out (by first | rfl | simp)
  case o2 =>
    intro g wr hB hk hp K hK
    have p26 : g 26 = .bool false := hp 1 (by kernel_rfl)
    have HB := hide hB
    clear hB hk hp
    have e26 := actOf_get 101 g ([] : List Deferred) 26 (by omega) p26
    refine wpOp_free rfl rfl ?_
    go_simp
    exact hK _ _ (Below.refl _ _) HB.out (by first | rfl | simp)
  case o3 =>
    intro g wr hB hk hp K hK
    have p9 : g 9 = .int .i64 (k : Int) := Option.some.inj (hk 9 (by decide) (by kernel_rfl))
    have pg : g 27 = .bool false := hp 2 (by kernel_rfl)
    have HB := hide hB
    clear hB hk hp
    have e9 := actOf_get 101 g ([] : List Deferred) 9 (by omega) p9
    refine wpOp_let rfl rfl (by kernel_rfl) (by omega) pg ?_
    clear pg
    go_simp
    exact hK _ _ (Below.refl _ _) HB.out (by first | rfl | simp)
  case o4 =>
    intro g wr hB hk hp K hK
    have p8 : g 8 = .slice (some ⟨b8, 0, none⟩) m cap8 := Option.some.inj (hk 8 (by decide) (by kernel_rfl))
    have pg : g 27 = .bool false := hp 2 (by kernel_rfl)
    have HB := hide hB
    clear hB hk hp
    have e8 := actOf_get 101 g ([] : List Deferred) 8 (by omega) p8
    refine wpOp_let rfl rfl (by kernel_rfl) (by omega) pg ?_
    clear pg
    go_simp
    exact hK _ _ (Below.refl _ _) HB.out (by first | rfl | simp)
  case o5 =>
    intro g wr hB hk hp K hK
    have p29 : g 29 = .slice (some ⟨b8, 0, none⟩) m cap8 := hp 4 (by kernel_rfl)
    have pg : g 27 = .bool false := hp 2 (by kernel_rfl)
    have HB := hide hB
    clear hB hk hp
    have e29 := actOf_get 101 g ([] : List Deferred) 29 (by omega) p29
    refine wpOp_let rfl rfl (by kernel_rfl) (by omega) pg ?_
    clear pg
    go_simp
    exact hK _ _ (Below.refl _ _) HB.out (by first | rfl | simp)
  case o6 =>
    intro g wr hB hk hp K hK
    have p28 : g 28 = .int .i64 (k : Int) := hp 3 (by kernel_rfl)
    have p30 : g 30 = .int .i64 (m : Int) := hp 5 (by kernel_rfl)
    have pg : g 27 = .bool false := hp 2 (by kernel_rfl)
    have HB := hide hB
    clear hB hk hp
    have e28 := actOf_get 101 g ([] : List Deferred) 28 (by omega) p28
    have e30 := actOf_get 101 g ([] : List Deferred) 30 (by omega) p30
    refine wpOp_let rfl rfl (by kernel_rfl) (by omega) pg ?_
    clear pg
    go_simp
    exact hK _ _ (Below.refl _ _) HB.out (congrArg Value.bool (decide_eq_false (by omega)))
  case o7 =>
    intro g wr hB hk hp K hK
    have p27 : g 27 = .bool false := hp 2 (by kernel_rfl)
    have p31 : g 31 = .bool false := hp 6 (by kernel_rfl)
    have HB := hide hB
    clear hB hk hp
    have e27 := actOf_get 101 g ([] : List Deferred) 27 (by omega) p27
    have e31 := actOf_get 101 g ([] : List Deferred) 31 (by omega) p31
    refine wpOp_free rfl rfl ?_
    go_simp
    exact hK _ _ (Below.refl _ _) HB.out (by first | rfl | simp)
  case o8 =>
    intro g wr hB hk hp K hK
    have p32 : g 32 = .bool false := hp 7 (by kernel_rfl)
    have HB := hide hB
    clear hB hk hp
    have e32 := actOf_get 101 g ([] : List Deferred) 32 (by omega) p32
    refine wpOp_free rfl rfl ?_
    go_simp
    exact hK _ _ (Below.refl _ _) HB.out (by first | rfl | simp)
  case o9 =>
    intro g wr hB hk hp K hK
    have p8 : g 8 = .slice (some ⟨b8, 0, none⟩) m cap8 := Option.some.inj (hk 8 (by decide) (by kernel_rfl))
    have pg : g 33 = .bool false := hp 8 (by kernel_rfl)
    have HB := hide hB
    clear hB hk hp
    have e8 := actOf_get 101 g ([] : List Deferred) 8 (by omega) p8
    refine wpOp_let rfl rfl (by kernel_rfl) (by omega) pg ?_
    clear pg
    go_simp
    exact hK _ _ (Below.refl _ _) HB.out (by first | rfl | simp)
  case o10 =>
    intro g wr hB hk hp K hK
    have p9 : g 9 = .int .i64 (k : Int) := Option.some.inj (hk 9 (by decide) (by kernel_rfl))
    have pg : g 33 = .bool false := hp 8 (by kernel_rfl)
    have HB := hide hB
    clear hB hk hp
    have e9 := actOf_get 101 g ([] : List Deferred) 9 (by omega) p9
    refine wpOp_let rfl rfl (by kernel_rfl) (by omega) pg ?_
    clear pg
    go_simp
    exact hK _ _ (Below.refl _ _) HB.out (by first | rfl | simp)
  case o11 =>
    intro g wr hB hk hp K hK
    have p34 : g 34 = .slice (some ⟨b8, 0, none⟩) m cap8 := hp 9 (by kernel_rfl)
    have p35 : g 35 = .int .i64 (k : Int) := hp 10 (by kernel_rfl)
    have pg : g 33 = .bool false := hp 8 (by kernel_rfl)
    have HB := hide hB
    clear hB hk hp
    have e34 := actOf_get 101 g ([] : List Deferred) 34 (by omega) p34
    have e35 := actOf_get 101 g ([] : List Deferred) 35 (by omega) p35
    refine wpOp_let rfl rfl (by kernel_rfl) (by omega) pg ?_
    clear pg
    go_simp
    exact hK _ _ (Below.refl _ _) HB.out (by first | rfl | simp)
  case o12 =>
    intro g wr hB hk hp K hK
    have p36 : g 36 = .pointer (some ⟨b8, k * 2, none⟩) := hp 11 (by kernel_rfl)
    have pg : g 33 = .bool false := hp 8 (by kernel_rfl)
    have HB := hide hB
    clear hB hk hp
    have lc0 := cell_later HB.out c81
    have lc1 := cell_later HB.out c82
    have e36 := actOf_get 101 g ([] : List Deferred) 36 (by omega) p36
    refine wpOp_let rfl rfl (by kernel_rfl) (by omega) pg ?_
    clear pg
    go_simp
    exact hK _ _ (Below.refl _ _) HB.out (by first | rfl | simp)
  case o13 =>
    intro g wr hB hk hp K hK
    have p4 : g 4 = .pointer (some ⟨w.heap.size, 0, none⟩) := Option.some.inj (hk 4 (by decide) (by kernel_rfl))
    have pg : g 33 = .bool false := hp 8 (by kernel_rfl)
    have HB := hide hB
    clear hB hk hp
    have lc0 := cell_later HB.out f41
    have lc1 := cell_later HB.out f42
    have e4 := actOf_get 101 g ([] : List Deferred) 4 (by omega) p4
    refine wpOp_let rfl rfl (by kernel_rfl) (by omega) pg ?_
    clear pg
    go_simp
    exact hK _ _ (Below.refl _ _) HB.out (by first | rfl | simp)
  case o14 =>
    intro g wr hB hk hp K hK
    have p37 : g 37 = .agg #[.int .i64 b1, .int .i64 b2] := hp 12 (by kernel_rfl)
    have p38 : g 38 = .agg #[.int .i64 b1, .int .i64 b2] := hp 13 (by kernel_rfl)
    have pg : g 33 = .bool false := hp 8 (by kernel_rfl)
    have HB := hide hB
    clear hB hk hp
    have e37 := actOf_get 101 g ([] : List Deferred) 37 (by omega) p37
    have e38 := actOf_get 101 g ([] : List Deferred) 38 (by omega) p38
    refine wpOp_let rfl rfl (by kernel_rfl) (by omega) pg ?_
    clear pg
    have hgd := guard_bk
    have hneq := neq_bk
    have hdec : eqb b1 b2 b1 b2 = true := decide_eq_true rfl
    go_simp
    exact hK _ _ (Below.refl _ _) HB.out rfl
  case o15 =>
    intro g wr hB hk hp K hK
    have p33 : g 33 = .bool false := hp 8 (by kernel_rfl)
    have p39 : g 39 = .bool false := hp 14 (by kernel_rfl)
    have HB := hide hB
    clear hB hk hp
    have e33 := actOf_get 101 g ([] : List Deferred) 33 (by omega) p33
    have e39 := actOf_get 101 g ([] : List Deferred) 39 (by omega) p39
    refine wpOp_free rfl rfl ?_
    go_simp
    exact hK _ _ (Below.refl _ _) HB.out (by first | rfl | simp)
  case o16 =>
    intro g wr hB hk hp K hK
    have p40 : g 40 = .bool false := hp 15 (by kernel_rfl)
    have HB := hide hB
    clear hB hk hp
    have e40 := actOf_get 101 g ([] : List Deferred) 40 (by omega) p40
    refine wpOp_free rfl rfl ?_
    go_simp
    exact hK _ _ (Below.refl _ _) HB.out (by first | rfl | simp)
  case o17 =>
    intro g wr hB hk hp K hK
    have p2 : g 2 = .int .i64 id := Option.some.inj (hk 2 (by decide) (by kernel_rfl))
    have pg : g 41 = .bool false := hp 16 (by kernel_rfl)
    have HB := hide hB
    clear hB hk hp
    have e2 := actOf_get 101 g ([] : List Deferred) 2 (by omega) p2
    refine wpOp_let rfl rfl (by kernel_rfl) (by omega) pg ?_
    clear pg
    go_simp
    exact hK _ _ (Below.refl _ _) HB.out (by first | rfl | simp)
  case o18 =>
    intro g wr hB hk hp K hK
    have p4 : g 4 = .pointer (some ⟨w.heap.size, 0, none⟩) := Option.some.inj (hk 4 (by decide) (by kernel_rfl))
    have pg : g 41 = .bool false := hp 16 (by kernel_rfl)
    have HB := hide hB
    clear hB hk hp
    have e4 := actOf_get 101 g ([] : List Deferred) 4 (by omega) p4
    refine wpOp_let rfl rfl (by kernel_rfl) (by omega) pg ?_
    clear pg
    go_simp
    exact hK _ _ (Below.refl _ _) HB.out (by first | rfl | simp)
  case o19 =>
    intro g wr hB hk hp K hK
    have p43 : g 43 = .pointer (some ⟨w.heap.size, 0, none⟩) := hp 18 (by kernel_rfl)
    have pg : g 41 = .bool false := hp 16 (by kernel_rfl)
    have HB := hide hB
    clear hB hk hp
    have lc0 := cell_later HB.out f41
    have e43 := actOf_get 101 g ([] : List Deferred) 43 (by omega) p43
    refine wpOp_let rfl rfl (by kernel_rfl) (by omega) pg ?_
    clear pg
    go_simp
    exact hK _ _ (Below.refl _ _) HB.out (by first | rfl | simp)
  case o20 =>
    intro g wr hB hk hp K hK
    have p42 : g 42 = .int .i64 id := hp 17 (by kernel_rfl)
    have p44 : g 44 = .int .i64 b1 := hp 19 (by kernel_rfl)
    have pg : g 41 = .bool false := hp 16 (by kernel_rfl)
    have HB := hide hB
    clear hB hk hp
    have e42 := actOf_get 101 g ([] : List Deferred) 42 (by omega) p42
    have e44 := actOf_get 101 g ([] : List Deferred) 44 (by omega) p44
    refine wpOp_let rfl rfl (by kernel_rfl) (by omega) pg ?_
    clear pg
    go_simp
    exact hK _ _ (Below.refl _ _) HB.out (by first | rfl | simp)
  case o21 =>
    intro g wr hB hk hp K hK
    have p45 : g 45 = .bool true := hp 20 (by kernel_rfl)
    have pg : g 41 = .bool false := hp 16 (by kernel_rfl)
    have HB := hide hB
    clear hB hk hp
    have e45 := actOf_get 101 g ([] : List Deferred) 45 (by omega) p45
    refine wpOp_let rfl rfl (by kernel_rfl) (by omega) pg ?_
    clear pg
    go_simp
    exact hK _ _ (Below.refl _ _) HB.out (by first | rfl | simp)
  case o22 =>
    intro g wr hB hk hp K hK
    have p8 : g 8 = .slice (some ⟨b8, 0, none⟩) m cap8 := Option.some.inj (hk 8 (by decide) (by kernel_rfl))
    have pg : g 46 = .bool true := hp 21 (by kernel_rfl)
    have HB := hide hB
    clear hB hk hp
    have e8 := actOf_get 101 g ([] : List Deferred) 8 (by omega) p8
    refine wpOp_let rfl rfl (by kernel_rfl) (by omega) pg ?_
    clear pg
    go_simp
    exact hK _ _ (Below.refl _ _) HB.out (by first | rfl | simp)
  case o23 =>
    intro g wr hB hk hp K hK
    have p2 : g 2 = .int .i64 id := Option.some.inj (hk 2 (by decide) (by kernel_rfl))
    have pg : g 46 = .bool true := hp 21 (by kernel_rfl)
    have HB := hide hB
    clear hB hk hp
    have e2 := actOf_get 101 g ([] : List Deferred) 2 (by omega) p2
    refine wpOp_let rfl rfl (by kernel_rfl) (by omega) pg ?_
    clear pg
    go_simp
    exact hK _ _ (Below.refl _ _) HB.out (by first | rfl | simp)
  case o24 =>
    intro g wr hB hk hp K hK
    have p47 : g 47 = .slice (some ⟨b8, 0, none⟩) m cap8 := hp 22 (by kernel_rfl)
    have p48 : g 48 = .int .i64 id := hp 23 (by kernel_rfl)
    have pg : g 46 = .bool true := hp 21 (by kernel_rfl)
    have HB := hide hB
    clear hB hk hp
    have e47 := actOf_get 101 g ([] : List Deferred) 47 (by omega) p47
    have e48 := actOf_get 101 g ([] : List Deferred) 48 (by omega) p48
    refine wpOp_let rfl rfl (by kernel_rfl) (by omega) pg ?_
    clear pg
    go_simp
    go_at_call 29
    refine (Find_calls _ _ _ _ _ _ (HV.out.below HB.out)).mono ?_
    rintro e w' ⟨rfl, hb⟩
    exact hK _ _ hb (below_then HB.out HB.out.size hb) (congrArg (Value.int .i64) HY.out)
  case o25 =>
    intro g wr hB hk hp K hK
    have p49 : g 49 = .int .i64 fy := hp 24 (by kernel_rfl)
    have pg : g 46 = .bool true := hp 21 (by kernel_rfl)
    have HB := hide hB
    clear hB hk hp
    have e49 := actOf_get 101 g ([] : List Deferred) 49 (by omega) p49
    refine wpOp_let rfl rfl (by kernel_rfl) (by omega) pg ?_
    clear pg
    go_simp
    exact hK _ _ (Below.refl _ _) HB.out (congrArg Value.bool HQY.out)
  case o26 =>
    intro g wr hB hk hp K hK
    have p0 : g 0 = .slice a n cap := Option.some.inj (hk 0 (by decide) (by kernel_rfl))
    have pg : g 46 = .bool true := hp 21 (by kernel_rfl)
    have HB := hide hB
    clear hB hk hp
    have e0 := actOf_get 101 g ([] : List Deferred) 0 (by omega) p0
    refine wpOp_let rfl rfl (by kernel_rfl) (by omega) pg ?_
    clear pg
    go_simp
    exact hK _ _ (Below.refl _ _) HB.out (by first | rfl | simp)
  case o27 =>
    intro g wr hB hk hp K hK
    have p2 : g 2 = .int .i64 id := Option.some.inj (hk 2 (by decide) (by kernel_rfl))
    have pg : g 46 = .bool true := hp 21 (by kernel_rfl)
    have HB := hide hB
    clear hB hk hp
    have e2 := actOf_get 101 g ([] : List Deferred) 2 (by omega) p2
    refine wpOp_let rfl rfl (by kernel_rfl) (by omega) pg ?_
    clear pg
    go_simp
    exact hK _ _ (Below.refl _ _) HB.out (by first | rfl | simp)
  case o28 =>
    intro g wr hB hk hp K hK
    have p51 : g 51 = .slice a n cap := hp 26 (by kernel_rfl)
    have p52 : g 52 = .int .i64 id := hp 27 (by kernel_rfl)
    have pg : g 46 = .bool true := hp 21 (by kernel_rfl)
    have HB := hide hB
    clear hB hk hp
    have e51 := actOf_get 101 g ([] : List Deferred) 51 (by omega) p51
    have e52 := actOf_get 101 g ([] : List Deferred) 52 (by omega) p52
    refine wpOp_let rfl rfl (by kernel_rfl) (by omega) pg ?_
    clear pg
    go_simp
    go_at_call 29
    refine (Find_calls _ _ _ _ _ _ (HR.out.below HB.out)).mono ?_
    rintro e w' ⟨rfl, hb⟩
    exact hK _ _ hb (below_then HB.out HB.out.size hb) (congrArg (Value.int .i64) HX.out)
  case o29 =>
    intro g wr hB hk hp K hK
    have p53 : g 53 = .int .i64 fx := hp 28 (by kernel_rfl)
    have pg : g 46 = .bool true := hp 21 (by kernel_rfl)
    have HB := hide hB
    clear hB hk hp
    have e53 := actOf_get 101 g ([] : List Deferred) 53 (by omega) p53
    refine wpOp_let rfl rfl (by kernel_rfl) (by omega) pg ?_
    clear pg
    go_simp
    exact hK _ _ (Below.refl _ _) HB.out (congrArg Value.bool HQX.out)
  case o30 =>
    intro g wr hB hk hp K hK
    have p50 : g 50 = .bool q := hp 25 (by kernel_rfl)
    have p54 : g 54 = .bool q := hp 29 (by kernel_rfl)
    have pg : g 46 = .bool true := hp 21 (by kernel_rfl)
    have HB := hide hB
    clear hB hk hp
    have e50 := actOf_get 101 g ([] : List Deferred) 50 (by omega) p50
    have e54 := actOf_get 101 g ([] : List Deferred) 54 (by omega) p54
    refine wpOp_let rfl rfl (by kernel_rfl) (by omega) pg ?_
    clear pg
    go_simp
    exact hK _ _ (Below.refl _ _) HB.out (by cases q <;> rfl)
  case o31 =>
    intro g wr hB hk hp K hK
    have p46 : g 46 = .bool true := hp 21 (by kernel_rfl)
    have p55 : g 55 = .bool false := hp 30 (by kernel_rfl)
    have pg : g 41 = .bool false := hp 16 (by kernel_rfl)
    have HB := hide hB
    clear hB hk hp
    have e46 := actOf_get 101 g ([] : List Deferred) 46 (by omega) p46
    have e55 := actOf_get 101 g ([] : List Deferred) 55 (by omega) p55
    refine wpOp_let rfl rfl (by kernel_rfl) (by omega) pg ?_
    clear pg
    go_simp
    exact hK _ _ (Below.refl _ _) HB.out (by first | rfl | simp)
  case o32 =>
    intro g wr hB hk hp K hK
    have p41 : g 41 = .bool false := hp 16 (by kernel_rfl)
    have p56 : g 56 = .bool false := hp 31 (by kernel_rfl)
    have HB := hide hB
    clear hB hk hp
    have e41 := actOf_get 101 g ([] : List Deferred) 41 (by omega) p41
    have e56 := actOf_get 101 g ([] : List Deferred) 56 (by omega) p56
    refine wpOp_free rfl rfl ?_
    go_simp
    exact hK _ _ (Below.refl _ _) HB.out (by first | rfl | simp)
  · intro g wr hB hP
    have hp2 : g 57 = .bool false := hP 32 (by decide)
    clear hP
    simp only [putAll, Act.put, List.setIfInBounds_toArray, List.set_cons_zero, List.set_cons_succ, hp2]
    have HB := hide hB
    replace HR := hide (HR.out.below HB.out)
    replace HV := hide (HV.out.below HB.out)
    replace HC := hide (below_then HC.out HC.out.size HB.out)
    replace f41 := cell_later HB.out f41
    replace f42 := cell_later HB.out f42
    have HC9 := hide (Below.refl wr.heap.size wr)
    clear hB HB hp2 c81 c82
    rcases HALL.out with h1 | ⟨h1, h2, h3, h4, h5, h6, h7⟩ | ⟨h1, h2, h3⟩
    · have h1b : (cx != 0) = true := by simpa using h1
      clear h1 HALL
      go_wp2_with (first
        | (go_at_call 26; (with_reducible show Calls _ _ #[.slice a _ _] _ _); refine (Check_calls _ _ _ _ _ (HR.out.below HC9.out) HWF.out (by omega)).mono ?_; rintro e w5 ⟨rfl, hb⟩; rw [HCX.out]; replace HV := hide (HV.out.below hb); replace f41 := cell_later hb f41; replace f42 := cell_later hb f42; replace HC := hide (below_then HC.out HC.out.size hb); replace HC9 := hide (below_then HC9.out HC9.out.size hb); clear hb)
        | (go_at_call 26; refine (Check_calls _ _ _ _ _ HV.out HWF2.out (by omega)).mono ?_; rintro e w5 ⟨rfl, hb⟩; rw [HCY.out]; replace HV := hide (HV.out.below hb); replace f41 := cell_later hb f41; replace f42 := cell_later hb f42; replace HC := hide (below_then HC.out HC.out.size hb); replace HC9 := hide (below_then HC9.out HC9.out.size hb); clear hb)
        | (go_at_call 36; refine (With_calls _ _ _ _ _ _ _ HV.out (by omega)).mono ?_; rintro e w6 ⟨v, rfl, ho, hb⟩; rw [HWW.out] at ho; obtain ⟨a9, cap9, hv, hr9, _⟩ := ho.form bkc_len; subst hv; have HV9 := hide hr9; replace HV := hide (HV.out.below hb); replace HC := hide (below_then HC.out HC.out.size hb); clear ho hr9 hb)
        | (go_at_call 45; refine (Same_calls _ _ _ _ _ _ _ _ _ HV9.out HV.out).mono ?_; rintro e w7 ⟨rfl, hb⟩; rw [decide_eq_true rfl]; replace HC := hide (below_then HC.out HC.out.size hb); clear hb))
      all_goals (go_ret; exact ⟨rfl, HC.out⟩)
    · subst h1 h2
      have h7b : (m : Int) ≤ 32 := by omega
      clear HALL
      go_wp2_with (first
        | (go_at_call 26; (with_reducible show Calls _ _ #[.slice a _ _] _ _); refine (Check_calls _ _ _ _ _ (HR.out.below HC9.out) HWF.out (by omega)).mono ?_; rintro e w5 ⟨rfl, hb⟩; rw [HCX.out]; replace HV := hide (HV.out.below hb); replace f41 := cell_later hb f41; replace f42 := cell_later hb f42; replace HC := hide (below_then HC.out HC.out.size hb); replace HC9 := hide (below_then HC9.out HC9.out.size hb); clear hb)
        | (go_at_call 26; refine (Check_calls _ _ _ _ _ HV.out HWF2.out (by omega)).mono ?_; rintro e w5 ⟨rfl, hb⟩; rw [HCY.out]; replace HV := hide (HV.out.below hb); replace f41 := cell_later hb f41; replace f42 := cell_later hb f42; replace HC := hide (below_then HC.out HC.out.size hb); replace HC9 := hide (below_then HC9.out HC9.out.size hb); clear hb)
        | (go_at_call 36; refine (With_calls _ _ _ _ _ _ _ HV.out (by omega)).mono ?_; rintro e w6 ⟨v, rfl, ho, hb⟩; rw [HWW.out] at ho; obtain ⟨a9, cap9, hv, hr9, _⟩ := ho.form bkc_len; subst hv; have HV9 := hide hr9; replace HV := hide (HV.out.below hb); replace HC := hide (below_then HC.out HC.out.size hb); clear ho hr9 hb)
        | (go_at_call 45; refine (Same_calls _ _ _ _ _ _ _ _ _ HV9.out HV.out).mono ?_; rintro e w7 ⟨rfl, hb⟩; rw [decide_eq_true rfl]; replace HC := hide (below_then HC.out HC.out.size hb); clear hb))
      go_ret
      exact ⟨rfl, HC.out⟩
    · subst h1
      have h2b : (cy == 0) = false := by simpa using h2
      clear HALL h2
      go_wp2_with (first
        | (go_at_call 26; (with_reducible show Calls _ _ #[.slice a _ _] _ _); refine (Check_calls _ _ _ _ _ (HR.out.below HC9.out) HWF.out (by omega)).mono ?_; rintro e w5 ⟨rfl, hb⟩; rw [HCX.out]; replace HV := hide (HV.out.below hb); replace f41 := cell_later hb f41; replace f42 := cell_later hb f42; replace HC := hide (below_then HC.out HC.out.size hb); replace HC9 := hide (below_then HC9.out HC9.out.size hb); clear hb)
        | (go_at_call 26; refine (Check_calls _ _ _ _ _ HV.out HWF2.out (by omega)).mono ?_; rintro e w5 ⟨rfl, hb⟩; rw [HCY.out]; replace HV := hide (HV.out.below hb); replace f41 := cell_later hb f41; replace f42 := cell_later hb f42; replace HC := hide (below_then HC.out HC.out.size hb); replace HC9 := hide (below_then HC9.out HC9.out.size hb); clear hb)
        | (go_at_call 36; refine (With_calls _ _ _ _ _ _ _ HV.out (by omega)).mono ?_; rintro e w6 ⟨v, rfl, ho, hb⟩; rw [HWW.out] at ho; obtain ⟨a9, cap9, hv, hr9, _⟩ := ho.form bkc_len; subst hv; have HV9 := hide hr9; replace HV := hide (HV.out.below hb); replace HC := hide (below_then HC.out HC.out.size hb); clear ho hr9 hb)
        | (go_at_call 45; refine (Same_calls _ _ _ _ _ _ _ _ _ HV9.out HV.out).mono ?_; rintro e w7 ⟨rfl, hb⟩; rw [decide_eq_true rfl]; replace HC := hide (below_then HC.out HC.out.size hb); clear hb))
      all_goals (go_ret; first | exact ⟨rfl, HC.out⟩ | exact ⟨congrArg (fun z => Ending.returned (Value.bool z)) (show (!decide ((m : Int) ≤ 32)) = true by simp; omega), HC.out⟩)
def PostWe (a : Option Addr) (n cap b8 m cap8 k : Nat) (b1 b2 id fx fy : Int) (q : Bool) (B4 : Nat) : Nat → Value → World → Prop
  | 0, v, w => v = .int .i64 (k : Int)
  | 1, v, w => v = .bool false
  | 2, v, w => v = .bool false
  | 3, v, w => v = .int .i64 (k : Int)
  | 4, v, w => v = .slice (some ⟨b8, 0, none⟩) m cap8
  | 5, v, w => v = .int .i64 (m : Int)
  | 6, v, w => v = .bool false
  | 7, v, w => v = .bool false
  | 8, v, w => v = .bool false
  | 9, v, w => v = .slice (some ⟨b8, 0, none⟩) m cap8
  | 10, v, w => v = .int .i64 (k : Int)
  | 11, v, w => v = .pointer (some ⟨b8, k * 2, none⟩)
  | 12, v, w => v = .agg #[.int .i64 b1, .int .i64 b2]
  | 13, v, w => v = .agg #[.int .i64 b1, .int .i64 b2]
  | 14, v, w => v = .bool false
  | 15, v, w => v = .bool false
  | 16, v, w => v = .bool false
  | 17, v, w => v = .int .i64 id
  | 18, v, w => v = .pointer (some ⟨B4, 0, none⟩)
  | 19, v, w => v = .int .i64 b1
  | 20, v, w => v = .bool false
  | 21, v, w => v = .bool false
  | 22, v, w => v = undef
  | 23, v, w => v = undef
  | 24, v, w => v = undef
  | 25, v, w => v = undef
  | 26, v, w => v = undef
  | 27, v, w => v = undef
  | 28, v, w => v = undef
  | 29, v, w => v = undef
  | 30, v, w => v = undef
  | 31, v, w => v = .bool false
  | 32, v, w => v = .bool false
  | _, _, _ => True
theorem PostWe_st (a : Option Addr) (n cap b8 m cap8 k : Nat) (b1 b2 id fx fy : Int) (q : Bool) (B4 : Nat) (i : Nat) (v : Value) (w w' : World) (h : PostWe a n cap b8 m cap8 k b1 b2 id fx fy q B4 i v w) (hb : Below w.heap.size w w') : PostWe a n cap b8 m cap8 k b1 b2 id fx fy q B4 i v w' := by
  match i with
  | 0 => exact h
  | 1 => exact h
  | 2 => exact h
  | 3 => exact h
  | 4 => exact h
  | 5 => exact h
  | 6 => exact h
  | 7 => exact h
  | 8 => exact h
  | 9 => exact h
  | 10 => exact h
  | 11 => exact h
  | 12 => exact h
  | 13 => exact h
  | 14 => exact h
  | 15 => exact h
  | 16 => exact h
  | 17 => exact h
  | 18 => exact h
  | 19 => exact h
  | 20 => exact h
  | 21 => exact h
  | 22 => exact h
  | 23 => exact h
  | 24 => exact h
  | 25 => exact h
  | 26 => exact h
  | 27 => exact h
  | 28 => exact h
  | 29 => exact h
  | 30 => exact h
  | 31 => exact h
  | 32 => exact h
  | _ + 33 => trivial

set_option maxRecDepth 100000 in
set_option maxHeartbeats 4000000 in
theorem PoolWith_eq (a : Option Addr) (n cap m k : Nat) (b1 b2 id fx fy cx cy : Int) (q : Bool) (xs ws : List Bk) (w : World) (hr : Rd 2 bkc w a n xs) (hwf : Wf xs) (hbig : n ≤ 60) (hm : m = ws.length) (hmn : m ≤ n + 1)
    (hw : withB xs (b1, b2) = ws) (hww : withB ws (b1, b2) = ws) (hwf2 : Wf ws) (hk : find ws b1 = k) (hkw : ws[k]? = some (b1, b2)) (hfx : find xs id = fx) (hfy : find ws id = fy) (hcx : check xs = cx) (hcy : check ws = cy)
    (hqx : decide (0 ≤ fx) = q) (hqy : id ≠ b1 → decide (0 ≤ fy) = q) (hall : cx ≠ 0 ∨ (cx = 0 ∧ cy = 0 ∧ 1 ≤ b1 ∧ b1 ≤ 65535 ∧ 1 ≤ b2 ∧ b2 ≤ 16 ∧ m ≤ 32) ∨ (cx = 0 ∧ cy ≠ 0 ∧ ¬ (1 ≤ b1 ∧ b1 ≤ 65535 ∧ 1 ≤ b2 ∧ b2 ≤ 16 ∧ m ≤ 32))) (hcb : id = b1) :
    Calls Try.prog 9 #[.slice a n cap, .agg #[.int .i64 b1, .int .i64 b2], .int .i64 id] w fun e w' => e = .returned (.bool true) ∧ Below w.heap.size w w' := by
  have hn : ¬ (60 : Int) < (n : Int) := by omega
  have hn2 := hr.le
  have hkm : k < m := by rw [hm]; exact (List.getElem?_eq_some_iff.1 hkw).1
  have hkm2 : (k : Int) < (m : Int) := by omega
  have hk0 : ¬ (k : Int) < 0 := by omega
  have hk1 : (0 : Int) ≤ (k : Int) := by omega
  have hm9 : (m : Int) ≤ 61 := by omega
  have HR := hide hr
  have HW := hide hw
  have HM := hide hm
  have HWW := hide hww
  have HWF := hide hwf
  have HWF2 := hide hwf2
  have HK := hide hk
  have HKW := hide hkw
  have HX := hide hfx
  have HY := hide hfy
  have HCX := hide hcx
  have HCY := hide hcy
  have HQX := hide hqx
  have hcb2 : (id != b1) = false := by simpa using hcb
  clear hcb
  have hb0 : Below w.heap.size w (w.alloc (.cells #[.int .i64 b1, .int .i64 b2] 56)) := (Below.refl _ w).alloc (Nat.le_refl _) _
  have HC0 := hide hb0
  have HALL := hide hall
  clear hr hw hww hwf hwf2 hk hkw hfx hfy hcx hcy hqx hqy hm hb0 hall
  go_enter Try.func9, Try.ntmps9
  go_wp2_with (first
    | (go_at_call 32; refine (works_calls _).mono ?_; rintro e w1 ⟨rfl, hb⟩; have f41 := cell_later (p := ⟨w.heap.size, 0, none⟩) (v := .int .i64 b1) hb (by simp); have f42 := cell_later (p := ⟨w.heap.size, 1, none⟩) (v := .int .i64 b2) hb (by simp); have HC := hide (below_then HC0.out HC0.out.size hb); clear hb)
    | (go_at_call 36; refine (With_calls _ _ _ _ _ _ _ (HR.out.below HC.out) (by omega)).mono ?_; rintro e W0 ⟨v, rfl, ho, hb⟩; rw [HW.out] at ho; obtain ⟨a8, cap8, hv, hr8, hrow⟩ := ho.form bkc_len; rw [← HM.out] at hv hr8; subst hv; have HV := hide hr8; have HRO := hide hrow; replace f41 := cell_later hb f41; replace f42 := cell_later hb f42; replace HC := hide (below_then HC.out HC.out.size hb); clear ho hr8 hb hrow)
    | (go_at_call 29; refine (Find_calls _ _ _ _ _ _ HV.out).mono ?_; rintro e W1 ⟨rfl, hb⟩; rw [HK.out]; replace HV := hide (HV.out.below hb); replace f41 := cell_later hb f41; replace f42 := cell_later hb f42; replace HC := hide (below_then HC.out HC.out.size hb); clear hb))
  obtain ⟨b8, off8, x1, x2, ha8, hx8, hb8, c81, c82⟩ := HV.out.at_bk k hkm
  obtain ⟨e1, e2⟩ : x1 = b1 ∧ x2 = b2 := by have := hx8.symm.trans HKW.out; simpa using this
  rw [e1] at c81
  rw [e2] at c82
  clear e1 e2
  have ho8 := (HRO.out _ ha8).2.1
  simp only at ho8
  subst ho8 ha8
  simp only [Nat.zero_add] at c81 c82
  clear hx8 HRO
  replace HR := hide (HR.out.below HC.out)
  refine wp_region_grow 101 [25, 26, 27, 28, 29, 30, 31, 32, 33, 34, 35, 36, 37, 38, 39, 40, 41, 42, 43, 44, 45, 46, 47, 48, 49, 50, 51, 52, 53, 54, 55, 56, 57] (Below W1.heap.size W1) (PostWe a n cap b8 m cap8 k b1 b2 id fx fy q w.heap.size) (by kernel_rfl) (by kernel_rfl) rfl (by kernel_rfl) (by kernel_rfl) (Below.refl _ _).drew (PostWe_st a n cap b8 m cap8 k b1 b2 id fx fy q w.heap.size) ⟨⟨⟨⟨⟨⟨⟨⟨⟨⟨⟨⟨⟨⟨⟨⟨⟨⟨⟨⟨⟨⟨⟨⟨⟨⟨⟨⟨⟨⟨⟨⟨⟨trivial, ?o0⟩, ?o1⟩, ?o2⟩, ?o3⟩, ?o4⟩, ?o5⟩, ?o6⟩, ?o7⟩, ?o8⟩, ?o9⟩, ?o10⟩, ?o11⟩, ?o12⟩, ?o13⟩, ?o14⟩, ?o15⟩, ?o16⟩, ?o17⟩, ?o18⟩, ?o19⟩, ?o20⟩, ?o21⟩, ?o22⟩, ?o23⟩, ?o24⟩, ?o25⟩, ?o26⟩, ?o27⟩, ?o28⟩, ?o29⟩, ?o30⟩, ?o31⟩, ?o32⟩ ?_
  case o0 =>
    intro g wr hB hk hp K hK
    have p9 : g 9 = .int .i64 (k : Int) := Option.some.inj (hk 9 (by decide) (by kernel_rfl))
    have HB := hide hB
    clear hB hk hp
    have e9 := actOf_get 101 g ([] : List Deferred) 9 (by omega) p9
    refine wpOp_free rfl rfl ?_
    go_simp
    exact hK _ _ (Below.refl _ _) HB.out (by first | rfl | simp)
  case o1 =>
    intro g wr hB hk hp K hK
    have p25 : g 25 = .int .i64 (k : Int) := hp 0 (by kernel_rfl)
    have HB := hide hB
    clear hB hk hp
    have e25 := actOf_get 101 g ([] : List Deferred) 25 (by omega) p25
    refine wpOp_free rfl rfl ?_
    go_simp
    exact hK _ _ (Below.refl _ _) HB.out (by first | rfl | simp)
  case o2 =>
    intro g wr hB hk hp K hK
    have p26 : g 26 = .bool false := hp 1 (by kernel_rfl)
    have HB := hide hB
    clear hB hk hp
    have e26 := actOf_get 101 g ([] : List Deferred) 26 (by omega) p26
    refine wpOp_free rfl rfl ?_
    go_simp
    exact hK _ _ (Below.refl _ _) HB.out (by first | rfl | simp)
  case o3 =>
    intro g wr hB hk hp K hK
    have p9 : g 9 = .int .i64 (k : Int) := Option.some.inj (hk 9 (by decide) (by kernel_rfl))
    have pg : g 27 = .bool false := hp 2 (by kernel_rfl)
    have HB := hide hB
    clear hB hk hp
    have e9 := actOf_get 101 g ([] : List Deferred) 9 (by omega) p9
    refine wpOp_let rfl rfl (by kernel_rfl) (by omega) pg ?_
    clear pg
    go_simp
    exact hK _ _ (Below.refl _ _) HB.out (by first | rfl | simp)
  case o4 =>
    intro g wr hB hk hp K hK
    have p8 : g 8 = .slice (some ⟨b8, 0, none⟩) m cap8 := Option.some.inj (hk 8 (by decide) (by kernel_rfl))
    have pg : g 27 = .bool false := hp 2 (by kernel_rfl)
    have HB := hide hB
    clear hB hk hp
    have e8 := actOf_get 101 g ([] : List Deferred) 8 (by omega) p8
    refine wpOp_let rfl rfl (by kernel_rfl) (by omega) pg ?_
    clear pg
    go_simp
    exact hK _ _ (Below.refl _ _) HB.out (by first | rfl | simp)
  case o5 =>
    intro g wr hB hk hp K hK
    have p29 : g 29 = .slice (some ⟨b8, 0, none⟩) m cap8 := hp 4 (by kernel_rfl)
    have pg : g 27 = .bool false := hp 2 (by kernel_rfl)
    have HB := hide hB
    clear hB hk hp
    have e29 := actOf_get 101 g ([] : List Deferred) 29 (by omega) p29
    refine wpOp_let rfl rfl (by kernel_rfl) (by omega) pg ?_
    clear pg
    go_simp
    exact hK _ _ (Below.refl _ _) HB.out (by first | rfl | simp)
  case o6 =>
    intro g wr hB hk hp K hK
    have p28 : g 28 = .int .i64 (k : Int) := hp 3 (by kernel_rfl)
    have p30 : g 30 = .int .i64 (m : Int) := hp 5 (by kernel_rfl)
    have pg : g 27 = .bool false := hp 2 (by kernel_rfl)
    have HB := hide hB
    clear hB hk hp
    have e28 := actOf_get 101 g ([] : List Deferred) 28 (by omega) p28
    have e30 := actOf_get 101 g ([] : List Deferred) 30 (by omega) p30
    refine wpOp_let rfl rfl (by kernel_rfl) (by omega) pg ?_
    clear pg
    go_simp
    exact hK _ _ (Below.refl _ _) HB.out (congrArg Value.bool (decide_eq_false (by omega)))
  case o7 =>
    intro g wr hB hk hp K hK
    have p27 : g 27 = .bool false := hp 2 (by kernel_rfl)
    have p31 : g 31 = .bool false := hp 6 (by kernel_rfl)
    have HB := hide hB
    clear hB hk hp
    have e27 := actOf_get 101 g ([] : List Deferred) 27 (by omega) p27
    have e31 := actOf_get 101 g ([] : List Deferred) 31 (by omega) p31
    refine wpOp_free rfl rfl ?_
    go_simp
    exact hK _ _ (Below.refl _ _) HB.out (by first | rfl | simp)
  case o8 =>
    intro g wr hB hk hp K hK
    have p32 : g 32 = .bool false := hp 7 (by kernel_rfl)
    have HB := hide hB
    clear hB hk hp
    have e32 := actOf_get 101 g ([] : List Deferred) 32 (by omega) p32
    refine wpOp_free rfl rfl ?_
    go_simp
    exact hK _ _ (Below.refl _ _) HB.out (by first | rfl | simp)
  case o9 =>
    intro g wr hB hk hp K hK
    have p8 : g 8 = .slice (some ⟨b8, 0, none⟩) m cap8 := Option.some.inj (hk 8 (by decide) (by kernel_rfl))
    have pg : g 33 = .bool false := hp 8 (by kernel_rfl)
    have HB := hide hB
    clear hB hk hp
    have e8 := actOf_get 101 g ([] : List Deferred) 8 (by omega) p8
    refine wpOp_let rfl rfl (by kernel_rfl) (by omega) pg ?_
    clear pg
    go_simp
    exact hK _ _ (Below.refl _ _) HB.out (by first | rfl | simp)
  case o10 =>
    intro g wr hB hk hp K hK
    have p9 : g 9 = .int .i64 (k : Int) := Option.some.inj (hk 9 (by decide) (by kernel_rfl))
    have pg : g 33 = .bool false := hp 8 (by kernel_rfl)
    have HB := hide hB
    clear hB hk hp
    have e9 := actOf_get 101 g ([] : List Deferred) 9 (by omega) p9
    refine wpOp_let rfl rfl (by kernel_rfl) (by omega) pg ?_
    clear pg
    go_simp
    exact hK _ _ (Below.refl _ _) HB.out (by first | rfl | simp)
  case o11 =>
    intro g wr hB hk hp K hK
    have p34 : g 34 = .slice (some ⟨b8, 0, none⟩) m cap8 := hp 9 (by kernel_rfl)
    have p35 : g 35 = .int .i64 (k : Int) := hp 10 (by kernel_rfl)
    have pg : g 33 = .bool false := hp 8 (by kernel_rfl)
    have HB := hide hB
    clear hB hk hp
    have e34 := actOf_get 101 g ([] : List Deferred) 34 (by omega) p34
    have e35 := actOf_get 101 g ([] : List Deferred) 35 (by omega) p35
    refine wpOp_let rfl rfl (by kernel_rfl) (by omega) pg ?_
    clear pg
    go_simp
    exact hK _ _ (Below.refl _ _) HB.out (by first | rfl | simp)
  case o12 =>
    intro g wr hB hk hp K hK
    have p36 : g 36 = .pointer (some ⟨b8, k * 2, none⟩) := hp 11 (by kernel_rfl)
    have pg : g 33 = .bool false := hp 8 (by kernel_rfl)
    have HB := hide hB
    clear hB hk hp
    have lc0 := cell_later HB.out c81
    have lc1 := cell_later HB.out c82
    have e36 := actOf_get 101 g ([] : List Deferred) 36 (by omega) p36
    refine wpOp_let rfl rfl (by kernel_rfl) (by omega) pg ?_
    clear pg
    go_simp
    exact hK _ _ (Below.refl _ _) HB.out (by first | rfl | simp)
  case o13 =>
    intro g wr hB hk hp K hK
    have p4 : g 4 = .pointer (some ⟨w.heap.size, 0, none⟩) := Option.some.inj (hk 4 (by decide) (by kernel_rfl))
    have pg : g 33 = .bool false := hp 8 (by kernel_rfl)
    have HB := hide hB
    clear hB hk hp
    have lc0 := cell_later HB.out f41
    have lc1 := cell_later HB.out f42
    have e4 := actOf_get 101 g ([] : List Deferred) 4 (by omega) p4
    refine wpOp_let rfl rfl (by kernel_rfl) (by omega) pg ?_
    clear pg
    go_simp
    exact hK _ _ (Below.refl _ _) HB.out (by first | rfl | simp)
  case o14 =>
    intro g wr hB hk hp K hK
    have p37 : g 37 = .agg #[.int .i64 b1, .int .i64 b2] := hp 12 (by kernel_rfl)
    have p38 : g 38 = .agg #[.int .i64 b1, .int .i64 b2] := hp 13 (by kernel_rfl)
    have pg : g 33 = .bool false := hp 8 (by kernel_rfl)
    have HB := hide hB
    clear hB hk hp
    have e37 := actOf_get 101 g ([] : List Deferred) 37 (by omega) p37
    have e38 := actOf_get 101 g ([] : List Deferred) 38 (by omega) p38
    refine wpOp_let rfl rfl (by kernel_rfl) (by omega) pg ?_
    clear pg
    have hgd := guard_bk
    have hneq := neq_bk
    have hdec : eqb b1 b2 b1 b2 = true := decide_eq_true rfl
    go_simp
    exact hK _ _ (Below.refl _ _) HB.out rfl
  case o15 =>
    intro g wr hB hk hp K hK
    have p33 : g 33 = .bool false := hp 8 (by kernel_rfl)
    have p39 : g 39 = .bool false := hp 14 (by kernel_rfl)
    have HB := hide hB
    clear hB hk hp
    have e33 := actOf_get 101 g ([] : List Deferred) 33 (by omega) p33
    have e39 := actOf_get 101 g ([] : List Deferred) 39 (by omega) p39
    refine wpOp_free rfl rfl ?_
    go_simp
    exact hK _ _ (Below.refl _ _) HB.out (by first | rfl | simp)
  case o16 =>
    intro g wr hB hk hp K hK
    have p40 : g 40 = .bool false := hp 15 (by kernel_rfl)
    have HB := hide hB
    clear hB hk hp
    have e40 := actOf_get 101 g ([] : List Deferred) 40 (by omega) p40
    refine wpOp_free rfl rfl ?_
    go_simp
    exact hK _ _ (Below.refl _ _) HB.out (by first | rfl | simp)
  case o17 =>
    intro g wr hB hk hp K hK
    have p2 : g 2 = .int .i64 id := Option.some.inj (hk 2 (by decide) (by kernel_rfl))
    have pg : g 41 = .bool false := hp 16 (by kernel_rfl)
    have HB := hide hB
    clear hB hk hp
    have e2 := actOf_get 101 g ([] : List Deferred) 2 (by omega) p2
    refine wpOp_let rfl rfl (by kernel_rfl) (by omega) pg ?_
    clear pg
    go_simp
    exact hK _ _ (Below.refl _ _) HB.out (by first | rfl | simp)
  case o18 =>
    intro g wr hB hk hp K hK
    have p4 : g 4 = .pointer (some ⟨w.heap.size, 0, none⟩) := Option.some.inj (hk 4 (by decide) (by kernel_rfl))
    have pg : g 41 = .bool false := hp 16 (by kernel_rfl)
    have HB := hide hB
    clear hB hk hp
    have e4 := actOf_get 101 g ([] : List Deferred) 4 (by omega) p4
    refine wpOp_let rfl rfl (by kernel_rfl) (by omega) pg ?_
    clear pg
    go_simp
    exact hK _ _ (Below.refl _ _) HB.out (by first | rfl | simp)
  case o19 =>
    intro g wr hB hk hp K hK
    have p43 : g 43 = .pointer (some ⟨w.heap.size, 0, none⟩) := hp 18 (by kernel_rfl)
    have pg : g 41 = .bool false := hp 16 (by kernel_rfl)
    have HB := hide hB
    clear hB hk hp
    have lc0 := cell_later HB.out f41
    have e43 := actOf_get 101 g ([] : List Deferred) 43 (by omega) p43
    refine wpOp_let rfl rfl (by kernel_rfl) (by omega) pg ?_
    clear pg
    go_simp
    exact hK _ _ (Below.refl _ _) HB.out (by first | rfl | simp)
  case o20 =>
    intro g wr hB hk hp K hK
    have p42 : g 42 = .int .i64 id := hp 17 (by kernel_rfl)
    have p44 : g 44 = .int .i64 b1 := hp 19 (by kernel_rfl)
    have pg : g 41 = .bool false := hp 16 (by kernel_rfl)
    have HB := hide hB
    clear hB hk hp
    have e42 := actOf_get 101 g ([] : List Deferred) 42 (by omega) p42
    have e44 := actOf_get 101 g ([] : List Deferred) 44 (by omega) p44
    refine wpOp_let rfl rfl (by kernel_rfl) (by omega) pg ?_
    clear pg
    go_simp
    exact hK _ _ (Below.refl _ _) HB.out (by first | rfl | simp)
  case o21 =>
    intro g wr hB hk hp K hK
    have p45 : g 45 = .bool false := hp 20 (by kernel_rfl)
    have pg : g 41 = .bool false := hp 16 (by kernel_rfl)
    have HB := hide hB
    clear hB hk hp
    have e45 := actOf_get 101 g ([] : List Deferred) 45 (by omega) p45
    refine wpOp_let rfl rfl (by kernel_rfl) (by omega) pg ?_
    clear pg
    go_simp
    exact hK _ _ (Below.refl _ _) HB.out (by first | rfl | simp)
  case o22 =>
    intro g wr hB hk hp K hK
    have pg : g 46 = .bool false := hp 21 (by kernel_rfl)
    exact wpOp_bar rfl rfl (by kernel_rfl) (by omega) pg (by decide) (hK undef wr (Below.refl _ _) hB rfl)
  case o23 =>
    intro g wr hB hk hp K hK
    have pg : g 46 = .bool false := hp 21 (by kernel_rfl)
    exact wpOp_bar rfl rfl (by kernel_rfl) (by omega) pg (by decide) (hK undef wr (Below.refl _ _) hB rfl)
  case o24 =>
    intro g wr hB hk hp K hK
    have pg : g 46 = .bool false := hp 21 (by kernel_rfl)
    exact wpOp_bar rfl rfl (by kernel_rfl) (by omega) pg (by decide) (hK undef wr (Below.refl _ _) hB rfl)
  case o25 =>
    intro g wr hB hk hp K hK
    have pg : g 46 = .bool false := hp 21 (by kernel_rfl)
    exact wpOp_bar rfl rfl (by kernel_rfl) (by omega) pg (by decide) (hK undef wr (Below.refl _ _) hB rfl)
  case o26 =>
    intro g wr hB hk hp K hK
    have pg : g 46 = .bool false := hp 21 (by kernel_rfl)
    exact wpOp_bar rfl rfl (by kernel_rfl) (by omega) pg (by decide) (hK undef wr (Below.refl _ _) hB rfl)
  case o27 =>
    intro g wr hB hk hp K hK
    have pg : g 46 = .bool false := hp 21 (by kernel_rfl)
    exact wpOp_bar rfl rfl (by kernel_rfl) (by omega) pg (by decide) (hK undef wr (Below.refl _ _) hB rfl)
  case o28 =>
    intro g wr hB hk hp K hK
    have pg : g 46 = .bool false := hp 21 (by kernel_rfl)
    exact wpOp_bar rfl rfl (by kernel_rfl) (by omega) pg (by decide) (hK undef wr (Below.refl _ _) hB rfl)
  case o29 =>
    intro g wr hB hk hp K hK
    have pg : g 46 = .bool false := hp 21 (by kernel_rfl)
    exact wpOp_bar rfl rfl (by kernel_rfl) (by omega) pg (by decide) (hK undef wr (Below.refl _ _) hB rfl)
  case o30 =>
    intro g wr hB hk hp K hK
    have pg : g 46 = .bool false := hp 21 (by kernel_rfl)
    exact wpOp_bar rfl rfl (by kernel_rfl) (by omega) pg (by decide) (hK undef wr (Below.refl _ _) hB rfl)
  case o31 =>
    intro g wr hB hk hp K hK
    have p46 : g 46 = .bool false := hp 21 (by kernel_rfl)
    have p55 : g 55 = undef := hp 30 (by kernel_rfl)
    have pg : g 41 = .bool false := hp 16 (by kernel_rfl)
    have HB := hide hB
    clear hB hk hp
    have e46 := actOf_get 101 g ([] : List Deferred) 46 (by omega) p46
    have e55 := actOf_get 101 g ([] : List Deferred) 55 (by omega) p55
    refine wpOp_let rfl rfl (by kernel_rfl) (by omega) pg ?_
    clear pg
    go_simp
    exact hK _ _ (Below.refl _ _) HB.out (by first | rfl | simp)
  case o32 =>
    intro g wr hB hk hp K hK
    have p41 : g 41 = .bool false := hp 16 (by kernel_rfl)
    have p56 : g 56 = .bool false := hp 31 (by kernel_rfl)
    have HB := hide hB
    clear hB hk hp
    have e41 := actOf_get 101 g ([] : List Deferred) 41 (by omega) p41
    have e56 := actOf_get 101 g ([] : List Deferred) 56 (by omega) p56
    refine wpOp_free rfl rfl ?_
    go_simp
    exact hK _ _ (Below.refl _ _) HB.out (by first | rfl | simp)
  · intro g wr hB hP
    have hp2 : g 57 = .bool false := hP 32 (by decide)
    clear hP
    simp only [putAll, Act.put, List.setIfInBounds_toArray, List.set_cons_zero, List.set_cons_succ, hp2]
    have HB := hide hB
    replace HR := hide (HR.out.below HB.out)
    replace HV := hide (HV.out.below HB.out)
    replace HC := hide (below_then HC.out HC.out.size HB.out)
    replace f41 := cell_later HB.out f41
    replace f42 := cell_later HB.out f42
    have HC9 := hide (Below.refl wr.heap.size wr)
    clear hB HB hp2 c81 c82
    rcases HALL.out with h1 | ⟨h1, h2, h3, h4, h5, h6, h7⟩ | ⟨h1, h2, h3⟩
    · have h1b : (cx != 0) = true := by simpa using h1
      clear h1 HALL
      go_wp2_with (first
        | (go_at_call 26; (with_reducible show Calls _ _ #[.slice a _ _] _ _); refine (Check_calls _ _ _ _ _ (HR.out.below HC9.out) HWF.out (by omega)).mono ?_; rintro e w5 ⟨rfl, hb⟩; rw [HCX.out]; replace HV := hide (HV.out.below hb); replace f41 := cell_later hb f41; replace f42 := cell_later hb f42; replace HC := hide (below_then HC.out HC.out.size hb); replace HC9 := hide (below_then HC9.out HC9.out.size hb); clear hb)
        | (go_at_call 26; refine (Check_calls _ _ _ _ _ HV.out HWF2.out (by omega)).mono ?_; rintro e w5 ⟨rfl, hb⟩; rw [HCY.out]; replace HV := hide (HV.out.below hb); replace f41 := cell_later hb f41; replace f42 := cell_later hb f42; replace HC := hide (below_then HC.out HC.out.size hb); replace HC9 := hide (below_then HC9.out HC9.out.size hb); clear hb)
        | (go_at_call 36; refine (With_calls _ _ _ _ _ _ _ HV.out (by omega)).mono ?_; rintro e w6 ⟨v, rfl, ho, hb⟩; rw [HWW.out] at ho; obtain ⟨a9, cap9, hv, hr9, _⟩ := ho.form bkc_len; subst hv; have HV9 := hide hr9; replace HV := hide (HV.out.below hb); replace HC := hide (below_then HC.out HC.out.size hb); clear ho hr9 hb)
        | (go_at_call 45; refine (Same_calls _ _ _ _ _ _ _ _ _ HV9.out HV.out).mono ?_; rintro e w7 ⟨rfl, hb⟩; rw [decide_eq_true rfl]; replace HC := hide (below_then HC.out HC.out.size hb); clear hb))
      all_goals (go_ret; exact ⟨rfl, HC.out⟩)
    · subst h1 h2
      have h7b : (m : Int) ≤ 32 := by omega
      clear HALL
      go_wp2_with (first
        | (go_at_call 26; (with_reducible show Calls _ _ #[.slice a _ _] _ _); refine (Check_calls _ _ _ _ _ (HR.out.below HC9.out) HWF.out (by omega)).mono ?_; rintro e w5 ⟨rfl, hb⟩; rw [HCX.out]; replace HV := hide (HV.out.below hb); replace f41 := cell_later hb f41; replace f42 := cell_later hb f42; replace HC := hide (below_then HC.out HC.out.size hb); replace HC9 := hide (below_then HC9.out HC9.out.size hb); clear hb)
        | (go_at_call 26; refine (Check_calls _ _ _ _ _ HV.out HWF2.out (by omega)).mono ?_; rintro e w5 ⟨rfl, hb⟩; rw [HCY.out]; replace HV := hide (HV.out.below hb); replace f41 := cell_later hb f41; replace f42 := cell_later hb f42; replace HC := hide (below_then HC.out HC.out.size hb); replace HC9 := hide (below_then HC9.out HC9.out.size hb); clear hb)
        | (go_at_call 36; refine (With_calls _ _ _ _ _ _ _ HV.out (by omega)).mono ?_; rintro e w6 ⟨v, rfl, ho, hb⟩; rw [HWW.out] at ho; obtain ⟨a9, cap9, hv, hr9, _⟩ := ho.form bkc_len; subst hv; have HV9 := hide hr9; replace HV := hide (HV.out.below hb); replace HC := hide (below_then HC.out HC.out.size hb); clear ho hr9 hb)
        | (go_at_call 45; refine (Same_calls _ _ _ _ _ _ _ _ _ HV9.out HV.out).mono ?_; rintro e w7 ⟨rfl, hb⟩; rw [decide_eq_true rfl]; replace HC := hide (below_then HC.out HC.out.size hb); clear hb))
      go_ret
      exact ⟨rfl, HC.out⟩
    · subst h1
      have h2b : (cy == 0) = false := by simpa using h2
      clear HALL h2
      go_wp2_with (first
        | (go_at_call 26; (with_reducible show Calls _ _ #[.slice a _ _] _ _); refine (Check_calls _ _ _ _ _ (HR.out.below HC9.out) HWF.out (by omega)).mono ?_; rintro e w5 ⟨rfl, hb⟩; rw [HCX.out]; replace HV := hide (HV.out.below hb); replace f41 := cell_later hb f41; replace f42 := cell_later hb f42; replace HC := hide (below_then HC.out HC.out.size hb); replace HC9 := hide (below_then HC9.out HC9.out.size hb); clear hb)
        | (go_at_call 26; refine (Check_calls _ _ _ _ _ HV.out HWF2.out (by omega)).mono ?_; rintro e w5 ⟨rfl, hb⟩; rw [HCY.out]; replace HV := hide (HV.out.below hb); replace f41 := cell_later hb f41; replace f42 := cell_later hb f42; replace HC := hide (below_then HC.out HC.out.size hb); replace HC9 := hide (below_then HC9.out HC9.out.size hb); clear hb)
        | (go_at_call 36; refine (With_calls _ _ _ _ _ _ _ HV.out (by omega)).mono ?_; rintro e w6 ⟨v, rfl, ho, hb⟩; rw [HWW.out] at ho; obtain ⟨a9, cap9, hv, hr9, _⟩ := ho.form bkc_len; subst hv; have HV9 := hide hr9; replace HV := hide (HV.out.below hb); replace HC := hide (below_then HC.out HC.out.size hb); clear ho hr9 hb)
        | (go_at_call 45; refine (Same_calls _ _ _ _ _ _ _ _ _ HV9.out HV.out).mono ?_; rintro e w7 ⟨rfl, hb⟩; rw [decide_eq_true rfl]; replace HC := hide (below_then HC.out HC.out.size hb); clear hb))
      all_goals (go_ret; first | exact ⟨rfl, HC.out⟩ | exact ⟨congrArg (fun z => Ending.returned (Value.bool z)) (show (!decide ((m : Int) ≤ 32)) = true by simp; omega), HC.out⟩)
end Go.Proofs.Ytiaifphidcfddaa
