/-
  The stable sort of backends: a merge whose first row is one backend.
-/
import Derived.Test.YtiaifphidcfddaaSwp
set_option linter.unusedVariables false
set_option linter.unusedSimpArgs false
namespace Go.Proofs.Ytiaifphidcfddaa
open Go.RowKit Go.Shelf

def TA5 (b n cap h a : Nat) (x1 x2 y1 y2 : Int) (z : Bool) : Nat → Value → World → Prop
  | 0, v, w => v = .func (.func 66) #[] #[]
  | 1, v, w => v = .slice (some ⟨b, 0, none⟩) n cap
  | 2, v, w => v = .int .i64 (h : Int)
  | 3, v, w => v = .pointer (some ⟨b, h * 2, none⟩)
  | 4, v, w => v = .agg #[.int .i64 y1, .int .i64 y2]
  | 5, v, w => v = .slice (some ⟨b, 0, none⟩) n cap
  | 6, v, w => v = .int .i64 (a : Int)
  | 7, v, w => v = .pointer (some ⟨b, a * 2, none⟩)
  | 8, v, w => v = .agg #[.int .i64 x1, .int .i64 x2]
  | 9, v, w => v = .int .i64 (cmpI y1 x1)
  | 10, v, w => v = .bool z
  | _, _, _ => True
theorem TA5_st (b n cap h a : Nat) (x1 x2 y1 y2 : Int) (z : Bool) (i : Nat) (v : Value) (w w' : World) (hP0 : TA5 b n cap h a x1 x2 y1 y2 z i v w) (hb : Below w.heap.size w w') : TA5 b n cap h a x1 x2 y1 y2 z i v w' := by
  match i with
  | 0 => exact hP0
  | 1 => exact hP0
  | 2 => exact hP0
  | 3 => exact hP0
  | 4 => exact hP0
  | 5 => exact hP0
  | 6 => exact hP0
  | 7 => exact hP0
  | 8 => exact hP0
  | 9 => exact hP0
  | 10 => exact hP0
  | _ + 11 => trivial
def SA11V (b n cap k l : Nat) (x1 x2 y1 y2 : Int) : Nat → Value
  | 0 => .slice (some ⟨b, 0, none⟩) n cap
  | 1 => .int .i64 (k : Int)
  | 2 => .slice (some ⟨b, 0, none⟩) n cap
  | 3 => .int .i64 (k : Int)
  | 4 => .int .i64 (l : Int)
  | 5 => .slice (some ⟨b, 0, none⟩) n cap
  | 6 => .int .i64 (k : Int)
  | 7 => .int .i64 (l : Int)
  | 8 => .pointer (some ⟨b, l * 2, none⟩)
  | 9 => .agg #[.int .i64 y1, .int .i64 y2]
  | 10 => .slice (some ⟨b, 0, none⟩) n cap
  | 11 => .int .i64 (k : Int)
  | 12 => .pointer (some ⟨b, k * 2, none⟩)
  | 13 => .agg #[.int .i64 x1, .int .i64 x2]
  | 14 => .pointer (some ⟨b, k * 2, none⟩)
  | 15 => undef
  | 16 => .pointer (some ⟨b, l * 2, none⟩)
  | 17 => undef
  | _ => undef
def SA11W (W0 W1 W2 : World) : Nat → World
  | 0 => W0
  | 1 => W1
  | _ => W2

set_option maxRecDepth 100000 in
set_option maxHeartbeats 8000000 in
theorem SymA_calls (b n cap base a m e : Nat) (p s2 q : List Bk) (x1 x2 : Int) (w : World) (ho : Ow 2 bkc 56 base w (.slice (some ⟨b, 0, none⟩) n cap) (p ++ ((x1, x2) :: (s2 ++ q)))) (hA : a = p.length) (hM : m = a + 1) (hE : e = m + s2.length) (hs2 : Srt s2) (hn : n ≤ 1048576) :
    Calls Try.prog 123 #[.slice (some ⟨b, 0, none⟩) n cap, .int .i64 (a : Int), .int .i64 (m : Int), .int .i64 (e : Int), .func (.func 66) #[] #[]] w fun e' w' => e' = .returned (.tuple #[]) ∧
      ∃ s', Ow 2 bkc 56 base w' (.slice (some ⟨b, 0, none⟩) n cap) (p ++ (s' ++ q)) ∧ Srt s' ∧ StEq ((x1, x2) :: s2) s' ∧ w.grownBy w' (some b) := by
  have eg : ∀ args w, (callFunc 66 args).run Try.prog w = .ok (.enter 66 args) w := enters_of Try.func66 (by kernel_rfl) rfl
  have hnl := ho.len_bk
  have hen : e ≤ n := by rw [hnl]; simp; omega
  have hma : m ≤ e := by omega
  have ham : a ≤ m := by omega
  have hone : ((m : Int) - (a : Int) == 1) = true := by rw [beq_iff_eq]; omega
  have HO := hide ho
  have HA := hide hA
  have HM := hide hM
  have HE := hide hE
  have HS := hide hs2
  clear ho hA hM hE hnl hs2
  go_enter Try.func123, Try.ntmps123
  go_wp2
  go_loopg [10, 11] (e - m) (fun gg s10 s11 wr => ∃ (i j : Nat), i ≤ j ∧ m ≤ i ∧ j ≤ e ∧ j - i ≤ gg ∧ s10 = .int .i64 (i : Int) ∧ s11 = .int .i64 (j : Int) ∧ Hid (∀ k y, s2[k]? = some y → (m + k < i → y.1 < x1) ∧ (j ≤ m + k → x1 ≤ y.1)) ∧ Hid (Ow 2 bkc 56 base wr (.slice (some ⟨b, 0, none⟩) n cap) (p ++ ((x1, x2) :: (s2 ++ q)))) ∧ Hid (w.grownBy wr (some b)))
  case atStart => exact ⟨m, e, hma, Nat.le_refl _, Nat.le_refl _, Nat.le_refl _, rfl, rfl, (hide (fun k y hk => ⟨fun h => by omega, fun h => by have := (List.getElem?_eq_some_iff.1 hk).1; have := HE.out; omega⟩)), HO, World.grownBy.refl _ _⟩
  case round =>
    obtain ⟨i, j, hij, him, hje, hg, rfl, rfl, HF, OW, GB⟩ := hrel
    obtain ⟨wq, hwq⟩ : ∃ wq, wq = wr := ⟨_, rfl⟩
    subst hwq
    by_cases hlt : i < j
    · have hltz : (i : Int) < (j : Int) := by omega
      have hjn : j ≤ 1048576 := by omega
      obtain ⟨h, hh⟩ : ∃ h, h = (i + j) / 2 := ⟨_, rfl⟩
      have hhz := hide (show ((i : Int) + (j : Int)) / 2 = (h : Int) by omega)
      have hih : i ≤ h := by omega
      have hhj : h < j := by omega
      obtain ⟨k, hk⟩ : ∃ k, k = h - m := ⟨_, rfl⟩
      have hkl2 : k < s2.length := by have := HE.out; omega
      obtain ⟨y1, y2, hyk⟩ : ∃ y1 y2, s2[k] = (y1, y2) := ⟨_, _, rfl⟩
      have hyq : s2[k]? = some (y1, y2) := by rw [List.getElem?_eq_getElem hkl2, hyk]
      have hx : (p ++ ((x1, x2) :: (s2 ++ q)))[a]? = some (x1, x2) := by rw [HA.out, List.getElem?_append_right (Nat.le_refl _), Nat.sub_self]; rfl
      have hy : (p ++ ((x1, x2) :: (s2 ++ q)))[h]? = some (y1, y2) := by
        have h1 := HA.out
        have h2 := HM.out
        rw [List.getElem?_append_right (by omega), show h - p.length = k + 1 by omega, List.getElem?_cons_succ, List.getElem?_append_left hkl2]; exact hyq
      have cx1 := hide (OW.out.cells_at hx).1
      have cx2 := hide (OW.out.cells_at hx).2
      have cy1 := hide (OW.out.cells_at hy).1
      have cy2 := hide (OW.out.cells_at hy).2
      have hhn : (h : Int) < (n : Int) := by omega
      have han : (a : Int) < (n : Int) := by have := HM.out; omega
      have hmk := hide (show m + k = h by omega)
      have HYQ := hide hyq
      obtain ⟨z, hz⟩ : ∃ z : Bool, decide (cmpI y1 x1 < 0) = z := ⟨_, rfl⟩
      have hzz := hide hz
      have hb1 := hide (show h + 1 ≤ j by omega)
      clear hh hk hyk hyq hx hy hz
      go_wp2
      rw [hhz.out]
      refine wp_region_grow 220 [40, 41, 42, 43, 44, 45, 46, 47, 48, 49, 50] (Below wq.heap.size wq) (TA5 b n cap h a x1 x2 y1 y2 z) (by kernel_rfl) (by kernel_rfl) rfl (by kernel_rfl) (by kernel_rfl) (Below.refl _ _).drew (TA5_st b n cap h a x1 x2 y1 y2 z) ⟨⟨⟨⟨⟨⟨⟨⟨⟨⟨⟨trivial, ?o0⟩, ?o1⟩, ?o2⟩, ?o3⟩, ?o4⟩, ?o5⟩, ?o6⟩, ?o7⟩, ?o8⟩, ?o9⟩, ?o10⟩ ?_
      case o0 =>
        intro g wr hB hk hp K hK
        have p4 : g 4 = .func (.func 66) #[] #[] := Option.some.inj (hk 4 (by decide) (by kernel_rfl))
        have HB := hide hB
        clear hB hk hp
        have e4 := actOf_get 220 g ([] : List Deferred) 4 (by omega) p4
        refine wpOp_free rfl rfl ?_
        go_simp
        exact hK _ _ (Below.refl _ _) HB.out (by first | rfl | simp)
      case o1 =>
        intro g wr hB hk hp K hK
        have p0 : g 0 = .slice (some ⟨b, 0, none⟩) n cap := Option.some.inj (hk 0 (by decide) (by kernel_rfl))
        have HB := hide hB
        clear hB hk hp
        have e0 := actOf_get 220 g ([] : List Deferred) 0 (by omega) p0
        refine wpOp_free rfl rfl ?_
        go_simp
        exact hK _ _ (Below.refl _ _) HB.out (by first | rfl | simp)
      case o2 =>
        intro g wr hB hk hp K hK
        have p12 : g 12 = .int .i64 (h : Int) := Option.some.inj (hk 12 (by decide) (by kernel_rfl))
        have HB := hide hB
        clear hB hk hp
        have e12 := actOf_get 220 g ([] : List Deferred) 12 (by omega) p12
        refine wpOp_free rfl rfl ?_
        go_simp
        exact hK _ _ (Below.refl _ _) HB.out (by first | rfl | simp)
      case o3 =>
        intro g wr hB hk hp K hK
        have p41 : g 41 = .slice (some ⟨b, 0, none⟩) n cap := hp 1 (by kernel_rfl)
        have p42 : g 42 = .int .i64 (h : Int) := hp 2 (by kernel_rfl)
        have HB := hide hB
        clear hB hk hp
        have e41 := actOf_get 220 g ([] : List Deferred) 41 (by omega) p41
        have e42 := actOf_get 220 g ([] : List Deferred) 42 (by omega) p42
        refine wpOp_free rfl rfl ?_
        go_simp
        exact hK _ _ (Below.refl _ _) HB.out (by first | rfl | simp)
      case o4 =>
        intro g wr hB hk hp K hK
        have p43 : g 43 = .pointer (some ⟨b, h * 2, none⟩) := hp 3 (by kernel_rfl)
        have HB := hide hB
        clear hB hk hp
        have lc0 := cell_later HB.out cy1.out
        have lc1 := cell_later HB.out cy2.out
        have e43 := actOf_get 220 g ([] : List Deferred) 43 (by omega) p43
        refine wpOp_free rfl rfl ?_
        go_simp
        exact hK _ _ (Below.refl _ _) HB.out (by first | rfl | simp)
      case o5 =>
        intro g wr hB hk hp K hK
        have p0 : g 0 = .slice (some ⟨b, 0, none⟩) n cap := Option.some.inj (hk 0 (by decide) (by kernel_rfl))
        have HB := hide hB
        clear hB hk hp
        have e0 := actOf_get 220 g ([] : List Deferred) 0 (by omega) p0
        refine wpOp_free rfl rfl ?_
        go_simp
        exact hK _ _ (Below.refl _ _) HB.out (by first | rfl | simp)
      case o6 =>
        intro g wr hB hk hp K hK
        have p1 : g 1 = .int .i64 (a : Int) := Option.some.inj (hk 1 (by decide) (by kernel_rfl))
        have HB := hide hB
        clear hB hk hp
        have e1 := actOf_get 220 g ([] : List Deferred) 1 (by omega) p1
        refine wpOp_free rfl rfl ?_
        go_simp
        exact hK _ _ (Below.refl _ _) HB.out (by first | rfl | simp)
      case o7 =>
        intro g wr hB hk hp K hK
        have p45 : g 45 = .slice (some ⟨b, 0, none⟩) n cap := hp 5 (by kernel_rfl)
        have p46 : g 46 = .int .i64 (a : Int) := hp 6 (by kernel_rfl)
        have HB := hide hB
        clear hB hk hp
        have e45 := actOf_get 220 g ([] : List Deferred) 45 (by omega) p45
        have e46 := actOf_get 220 g ([] : List Deferred) 46 (by omega) p46
        refine wpOp_free rfl rfl ?_
        go_simp
        exact hK _ _ (Below.refl _ _) HB.out (by first | rfl | simp)
      case o8 =>
        intro g wr hB hk hp K hK
        have p47 : g 47 = .pointer (some ⟨b, a * 2, none⟩) := hp 7 (by kernel_rfl)
        have HB := hide hB
        clear hB hk hp
        have lc0 := cell_later HB.out cx1.out
        have lc1 := cell_later HB.out cx2.out
        have e47 := actOf_get 220 g ([] : List Deferred) 47 (by omega) p47
        refine wpOp_free rfl rfl ?_
        go_simp
        exact hK _ _ (Below.refl _ _) HB.out (by first | rfl | simp)
      case o9 =>
        intro g wr hB hk hp K hK
        have p40 : g 40 = .func (.func 66) #[] #[] := hp 0 (by kernel_rfl)
        have p44 : g 44 = .agg #[.int .i64 y1, .int .i64 y2] := hp 4 (by kernel_rfl)
        have p48 : g 48 = .agg #[.int .i64 x1, .int .i64 x2] := hp 8 (by kernel_rfl)
        have HB := hide hB
        clear hB hk hp
        have e40 := actOf_get 220 g ([] : List Deferred) 40 (by omega) p40
        have e44 := actOf_get 220 g ([] : List Deferred) 44 (by omega) p44
        have e48 := actOf_get 220 g ([] : List Deferred) 48 (by omega) p48
        refine wpOp_free rfl rfl ?_
        go_simp
        refine (cmpId_calls (y1, y2) (x1, x2) _).mono ?_
        rintro e w' ⟨rfl, hb⟩
        exact hK _ _ hb (below_then HB.out HB.out.size hb) rfl
      case o10 =>
        intro g wr hB hk hp K hK
        have p49 : g 49 = .int .i64 (cmpI y1 x1) := hp 9 (by kernel_rfl)
        have HB := hide hB
        clear hB hk hp
        have e49 := actOf_get 220 g ([] : List Deferred) 49 (by omega) p49
        refine wpOp_free rfl rfl ?_
        go_simp
        exact hK _ _ (Below.refl _ _) HB.out (congrArg Value.bool hzz.out)
      intro g wr hB hP
      have hp2 : g 50 = .bool z := hP 10 (by decide)
      have HB := hide hB
      clear hP hB
      simp only [putAll, Act.put, List.setIfInBounds_toArray, List.set_cons_zero, List.set_cons_succ, hp2]
      clear hp2
      cases z with
      | true =>
        go_wp2
        go_roundg (j - (h + 1))
        case measure => omega
        case rel => exact ⟨h + 1, j, hb1.out, by omega, hje, Nat.le_refl _, by go_num, rfl, (hide (fun k2 y hy2 => ⟨fun h3 => (by
            have h4 := cmpI_neg (of_decide_eq_true hzz.out)
            have h5 := HS.out
            unfold Srt at h5
            rw [List.pairwise_iff_getElem] at h5
            obtain ⟨g1, g2⟩ := List.getElem?_eq_some_iff.1 hy2
            obtain ⟨g3, g4⟩ := List.getElem?_eq_some_iff.1 HYQ.out
            by_cases e : k2 = k
            · subst e; rw [g2] at g4; rw [g4]; exact h4
            · have := h5 k2 k g1 g3 (by have := hmk.out; omega)
              rw [g2, g4] at this
              have h6 : y.1 ≤ y1 := this
              omega), (HF.out k2 y hy2).2⟩)), (hide (OW.out.below HB.out)), grownBy_below GB.out HB.out⟩
      | false =>
        go_wp2
        go_roundg (h - i)
        case measure => omega
        case rel => exact ⟨i, h, hih, him, by omega, Nat.le_refl _, rfl, rfl, (hide (fun k2 y hy2 => ⟨(HF.out k2 y hy2).1, fun h3 => (by
            have h4 := cmpI_nneg (of_decide_eq_false hzz.out)
            have h5 := HS.out
            unfold Srt at h5
            rw [List.pairwise_iff_getElem] at h5
            obtain ⟨g1, g2⟩ := List.getElem?_eq_some_iff.1 hy2
            obtain ⟨g3, g4⟩ := List.getElem?_eq_some_iff.1 HYQ.out
            by_cases e : k2 = k
            · subst e; rw [g2] at g4; rw [g4]; exact h4
            · have := h5 k k2 g3 g1 (by have := hmk.out; omega)
              rw [g2, g4] at this
              have h6 : y1 ≤ y.1 := this
              omega)⟩)), (hide (OW.out.below HB.out)), grownBy_below GB.out HB.out⟩
    · have hltz : ¬ (i : Int) < (j : Int) := by omega
      have : i = j := by omega
      subst this
      obtain ⟨u, v, huv, hul⟩ : ∃ u v, s2 = u ++ v ∧ m + u.length = i := ⟨s2.take (i - m), s2.drop (i - m), (List.take_append_drop _ _).symm, by rw [List.length_take, Nat.min_eq_left (by have := HE.out; omega)]; omega⟩
      have hres : Srt (u ++ (x1, x2) :: v) ∧ StEq ((x1, x2) :: s2) (u ++ (x1, x2) :: v) := by
        have h5 := HS.out
        rw [huv] at h5 ⊢
        refine srt_split h5 (fun y hy => ?_) (fun y hy => ?_)
        · obtain ⟨k, hk, e⟩ := List.getElem_of_mem hy
          exact (HF.out k y (by rw [huv, List.getElem?_append_left hk, List.getElem?_eq_getElem hk, e])).1 (by omega)
        · obtain ⟨k, hk, e⟩ := List.getElem_of_mem hy
          exact (HF.out (u.length + k) y (by rw [huv, List.getElem?_append_right (by omega), Nat.add_sub_cancel_left, List.getElem?_eq_getElem hk, e])).2 (by omega)
      have hi2 : (i : Int) - 1 = ((a + u.length : Nat) : Int) := by have := HM.out; omega
      obtain ⟨d, hd⟩ : ∃ d, d = a + u.length := ⟨_, rfl⟩
      have HD := hide (show (i : Int) - 1 = (d : Int) by omega)
      have hdi : d + 1 = i := by have := HM.out; omega
      have had : a ≤ d := by omega
      have HUL := hide hd
      have HRES := hide hres
      have HUV := hide huv
      clear hi2 hd hres huv hul
      go_wp2
      go_loopg [13] (d - a) (fun gg s13 wr => ∃ (k : Nat) (u1 u2 : List Bk), a ≤ k ∧ k ≤ d ∧ d - k ≤ gg ∧ s13 = .int .i64 (k : Int) ∧ Hid (k = a + u1.length) ∧ Hid (u = u1 ++ u2) ∧ Hid (Ow 2 bkc 56 base wr (.slice (some ⟨b, 0, none⟩) n cap) (p ++ ((u1 ++ (x1, x2) :: (u2 ++ v)) ++ q))) ∧ Hid (w.grownBy wr (some b)))
      case atStart => exact ⟨a, [], u, Nat.le_refl _, had, Nat.le_refl _, rfl, (show Hid _ from rfl), (show Hid _ from rfl), (hide (by have := OW.out; rw [HUV.out] at this; simpa using this)), GB⟩
      case round =>
        obtain ⟨k, u1, u2, hak, hkd, hg3, rfl, KL, UU, OW2, GB2⟩ := hrel
        obtain ⟨wo, hwo⟩ : ∃ wo, wo = wr := ⟨_, rfl⟩
        subst hwo
        by_cases hlt2 : k < d
        · have hlt3 : (k : Int) < (i : Int) - 1 := by omega
          obtain ⟨y, u2', hu2⟩ : ∃ y u2', u2 = y :: u2' := by
            cases u2 with
            | nil => have h1 := KL.out; have h2 := UU.out; have h3 := HUL.out; rw [List.append_nil] at h2; rw [h2] at h3; omega
            | cons y t => exact ⟨y, t, rfl⟩
          obtain ⟨y1, y2⟩ := y
          obtain ⟨l, hl⟩ : ∃ l, l = k + 1 := ⟨_, rfl⟩
          have hkl := hide (show IntKind.i64.wrap ((k : Int) + 1) = (l : Int) by rw [IntWalk.i64_in _ (by omega)]; omega)
          have hkn : (k : Int) < (n : Int) := by omega
          have hln : (l : Int) < (n : Int) := by omega
          have OW3 := OW2.out
          rw [hu2, show p ++ ((u1 ++ (x1, x2) :: ((y1, y2) :: u2' ++ v)) ++ q) = (p ++ u1) ++ (x1, x2) :: (y1, y2) :: (u2' ++ v ++ q) by simp] at OW3
          have hpl : k = (p ++ u1).length := by rw [List.length_append, KL.out, HA.out]
          have hx : ((p ++ u1) ++ (x1, x2) :: (y1, y2) :: (u2' ++ v ++ q))[k]? = some (x1, x2) := by rw [hpl, List.getElem?_append_right (Nat.le_refl _), Nat.sub_self]; rfl
          have hy : ((p ++ u1) ++ (x1, x2) :: (y1, y2) :: (u2' ++ v ++ q))[l]? = some (y1, y2) := by rw [hl, hpl, List.getElem?_append_right (by omega), Nat.add_sub_cancel_left]; rfl
          obtain ⟨W0, W1, W2, hRD, hOW, hGW⟩ := swap_ready OW3 k l x1 x2 y1 y2 hx hy (by omega)
          have RD := hide hRD
          rw [hl, swap_next _ _ _ _ _ hpl] at hOW
          have HOW := hide hOW
          have HGW := hide hGW
          have HU2 := hide hu2
          have HL := hide hl
          clear OW3 hpl hx hy hRD hOW hGW hu2 hl
          go_wp2
          refine wp_region_fix 220 [61, 62, 63, 64, 65, 66, 67, 68, 69, 70, 71, 72, 73, 74, 75, 76] [1, 1, 1, 1, 2, 1, 1, 2, 3, 4, 1, 1, 2, 3, 5, 6, 7, 8] [15, 17] (SA11V b n cap k l x1 x2 y1 y2) (SA11W W0 W1 W2) (by kernel_rfl) (by kernel_rfl) (by kernel_rfl) (by kernel_rfl) rfl (by kernel_rfl) (by kernel_rfl) RD.out.e0 ⟨⟨⟨⟨⟨⟨⟨⟨⟨⟨⟨⟨⟨⟨⟨⟨⟨⟨trivial, ?o0⟩, ?o1⟩, ?o2⟩, ?o3⟩, ?o4⟩, ?o5⟩, ?o6⟩, ?o7⟩, ?o8⟩, ?o9⟩, ?o10⟩, ?o11⟩, ?o12⟩, ?o13⟩, ?o14⟩, ?o15⟩, ?o16⟩, ?o17⟩ ?_
          case o0 =>
            intro g hk hp cI hcI hm K hK
            match cI, hcI, hm, hK with
            | 0, _, _, hK =>
              have p0 : g 0 = .slice (some ⟨b, 0, none⟩) n cap := Option.some.inj (hk 0 (by decide) (by kernel_rfl))
              have e0 := actOf_get 220 g ([] : List Deferred) 0 (by omega) p0
              clear hk hp
              refine wpOp_free rfl rfl ?_
              show Oper.wp _ _ _ W0 _ _
              replace hK := hide hK
              go_simp
              exact hK.out
            | 1, _, hm, _ => exact (Bool.false_ne_true ((show false = mayAt _ _ _ _ by kernel_rfl).trans hm)).elim
            | 2, _, hm, _ => exact (Bool.false_ne_true ((show false = mayAt _ _ _ _ by kernel_rfl).trans hm)).elim
            | cI + 3, hcI, _, _ => exact absurd hcI (by simp)
          case o1 =>
            intro g hk hp cI hcI hm K hK
            match cI, hcI, hm, hK with
            | 0, _, _, hK =>
              have p13 : g 13 = .int .i64 (k : Int) := Option.some.inj (hk 13 (by decide) (by kernel_rfl))
              have e13 := actOf_get 220 g ([] : List Deferred) 13 (by omega) p13
              clear hk hp
              refine wpOp_free rfl rfl ?_
              show Oper.wp _ _ _ W0 _ _
              replace hK := hide hK
              go_simp
              exact hK.out
            | 1, _, hm, _ => exact (Bool.false_ne_true ((show false = mayAt _ _ _ _ by kernel_rfl).trans hm)).elim
            | 2, _, hm, _ => exact (Bool.false_ne_true ((show false = mayAt _ _ _ _ by kernel_rfl).trans hm)).elim
            | cI + 3, hcI, _, _ => exact absurd hcI (by simp)
          case o2 =>
            intro g hk hp cI hcI hm K hK
            match cI, hcI, hm, hK with
            | 0, _, _, hK =>
              have p0 : g 0 = .slice (some ⟨b, 0, none⟩) n cap := Option.some.inj (hk 0 (by decide) (by kernel_rfl))
              have e0 := actOf_get 220 g ([] : List Deferred) 0 (by omega) p0
              clear hk hp
              refine wpOp_free rfl rfl ?_
              show Oper.wp _ _ _ W0 _ _
              replace hK := hide hK
              go_simp
              exact hK.out
            | 1, _, _, hK =>
              have p0 : g 0 = .slice (some ⟨b, 0, none⟩) n cap := Option.some.inj (hk 0 (by decide) (by kernel_rfl))
              have e0 := actOf_get 220 g ([] : List Deferred) 0 (by omega) p0
              clear hk hp
              refine wpOp_free rfl rfl ?_
              show Oper.wp _ _ _ W1 _ _
              replace hK := hide hK
              go_simp
              exact hK.out
            | 2, _, hm, _ => exact (Bool.false_ne_true ((show false = mayAt _ _ _ _ by kernel_rfl).trans hm)).elim
            | cI + 3, hcI, _, _ => exact absurd hcI (by simp)
          case o3 =>
            intro g hk hp cI hcI hm K hK
            match cI, hcI, hm, hK with
            | 0, _, _, hK =>
              have p13 : g 13 = .int .i64 (k : Int) := Option.some.inj (hk 13 (by decide) (by kernel_rfl))
              have e13 := actOf_get 220 g ([] : List Deferred) 13 (by omega) p13
              clear hk hp
              refine wpOp_free rfl rfl ?_
              show Oper.wp _ _ _ W0 _ _
              replace hK := hide hK
              go_simp
              exact hK.out
            | 1, _, _, hK =>
              have p13 : g 13 = .int .i64 (k : Int) := Option.some.inj (hk 13 (by decide) (by kernel_rfl))
              have e13 := actOf_get 220 g ([] : List Deferred) 13 (by omega) p13
              clear hk hp
              refine wpOp_free rfl rfl ?_
              show Oper.wp _ _ _ W1 _ _
              replace hK := hide hK
              go_simp
              exact hK.out
            | 2, _, hm, _ => exact (Bool.false_ne_true ((show false = mayAt _ _ _ _ by kernel_rfl).trans hm)).elim
            | cI + 3, hcI, _, _ => exact absurd hcI (by simp)
          case o4 =>
            intro g hk hp cI hcI hm K hK
            match cI, hcI, hm, hK with
            | 0, _, _, hK =>
              have p64 : g 64 = .int .i64 (k : Int) := hp 3 (by kernel_rfl) 64 (by kernel_rfl)
              have e64 := actOf_get 220 g ([] : List Deferred) 64 (by omega) p64
              clear hk hp
              refine wpOp_free rfl rfl ?_
              show Oper.wp _ _ _ W0 _ _
              replace hK := hide hK
              go_simp
              rw [hkl.out]; exact hK.out
            | 1, _, _, hK =>
              have p64 : g 64 = .int .i64 (k : Int) := hp 3 (by kernel_rfl) 64 (by kernel_rfl)
              have e64 := actOf_get 220 g ([] : List Deferred) 64 (by omega) p64
              clear hk hp
              refine wpOp_free rfl rfl ?_
              show Oper.wp _ _ _ W1 _ _
              replace hK := hide hK
              go_simp
              rw [hkl.out]; exact hK.out
            | 2, _, hm, _ => exact (Bool.false_ne_true ((show false = mayAt _ _ _ _ by kernel_rfl).trans hm)).elim
            | cI + 3, hcI, _, _ => exact absurd hcI (by simp)
          case o5 =>
            intro g hk hp cI hcI hm K hK
            match cI, hcI, hm, hK with
            | 0, _, _, hK =>
              have p0 : g 0 = .slice (some ⟨b, 0, none⟩) n cap := Option.some.inj (hk 0 (by decide) (by kernel_rfl))
              have e0 := actOf_get 220 g ([] : List Deferred) 0 (by omega) p0
              clear hk hp
              refine wpOp_free rfl rfl ?_
              show Oper.wp _ _ _ W0 _ _
              replace hK := hide hK
              go_simp
              exact hK.out
            | 1, _, hm, _ => exact (Bool.false_ne_true ((show false = mayAt _ _ _ _ by kernel_rfl).trans hm)).elim
            | 2, _, hm, _ => exact (Bool.false_ne_true ((show false = mayAt _ _ _ _ by kernel_rfl).trans hm)).elim
            | cI + 3, hcI, _, _ => exact absurd hcI (by simp)
          case o6 =>
            intro g hk hp cI hcI hm K hK
            match cI, hcI, hm, hK with
            | 0, _, _, hK =>
              have p13 : g 13 = .int .i64 (k : Int) := Option.some.inj (hk 13 (by decide) (by kernel_rfl))
              have e13 := actOf_get 220 g ([] : List Deferred) 13 (by omega) p13
              clear hk hp
              refine wpOp_free rfl rfl ?_
              show Oper.wp _ _ _ W0 _ _
              replace hK := hide hK
              go_simp
              exact hK.out
            | 1, _, hm, _ => exact (Bool.false_ne_true ((show false = mayAt _ _ _ _ by kernel_rfl).trans hm)).elim
            | 2, _, hm, _ => exact (Bool.false_ne_true ((show false = mayAt _ _ _ _ by kernel_rfl).trans hm)).elim
            | cI + 3, hcI, _, _ => exact absurd hcI (by simp)
          case o7 =>
            intro g hk hp cI hcI hm K hK
            match cI, hcI, hm, hK with
            | 0, _, _, hK =>
              have p67 : g 67 = .int .i64 (k : Int) := hp 6 (by kernel_rfl) 67 (by kernel_rfl)
              have e67 := actOf_get 220 g ([] : List Deferred) 67 (by omega) p67
              clear hk hp
              refine wpOp_free rfl rfl ?_
              show Oper.wp _ _ _ W0 _ _
              replace hK := hide hK
              go_simp
              rw [hkl.out]; exact hK.out
            | 1, _, hm, _ => exact (Bool.false_ne_true ((show false = mayAt _ _ _ _ by kernel_rfl).trans hm)).elim
            | 2, _, hm, _ => exact (Bool.false_ne_true ((show false = mayAt _ _ _ _ by kernel_rfl).trans hm)).elim
            | cI + 3, hcI, _, _ => exact absurd hcI (by simp)
          case o8 =>
            intro g hk hp cI hcI hm K hK
            match cI, hcI, hm, hK with
            | 0, _, _, hK =>
              have p66 : g 66 = .slice (some ⟨b, 0, none⟩) n cap := hp 5 (by kernel_rfl) 66 (by kernel_rfl)
              have e66 := actOf_get 220 g ([] : List Deferred) 66 (by omega) p66
              have p68 : g 68 = .int .i64 (l : Int) := hp 7 (by kernel_rfl) 68 (by kernel_rfl)
              have e68 := actOf_get 220 g ([] : List Deferred) 68 (by omega) p68
              clear hk hp
              refine wpOp_free rfl rfl ?_
              show Oper.wp _ _ _ W0 _ _
              replace hK := hide hK
              go_simp
              exact hK.out
            | 1, _, hm, _ => exact (Bool.false_ne_true ((show false = mayAt _ _ _ _ by kernel_rfl).trans hm)).elim
            | 2, _, hm, _ => exact (Bool.false_ne_true ((show false = mayAt _ _ _ _ by kernel_rfl).trans hm)).elim
            | cI + 3, hcI, _, _ => exact absurd hcI (by simp)
          case o9 =>
            intro g hk hp cI hcI hm K hK
            match cI, hcI, hm, hK with
            | 0, _, _, hK =>
              have p69 : g 69 = .pointer (some ⟨b, l * 2, none⟩) := hp 8 (by kernel_rfl) 69 (by kernel_rfl)
              have e69 := actOf_get 220 g ([] : List Deferred) 69 (by omega) p69
              clear hk hp
              have lc0 := RD.out.dy1
              have lc1 := RD.out.dy2
              refine wpOp_free rfl rfl ?_
              show Oper.wp _ _ _ W0 _ _
              replace hK := hide hK
              go_simp
              exact hK.out
            | 1, _, hm, _ => exact (Bool.false_ne_true ((show false = mayAt _ _ _ _ by kernel_rfl).trans hm)).elim
            | 2, _, hm, _ => exact (Bool.false_ne_true ((show false = mayAt _ _ _ _ by kernel_rfl).trans hm)).elim
            | cI + 3, hcI, _, _ => exact absurd hcI (by simp)
          case o10 =>
            intro g hk hp cI hcI hm K hK
            match cI, hcI, hm, hK with
            | 0, _, _, hK =>
              have p0 : g 0 = .slice (some ⟨b, 0, none⟩) n cap := Option.some.inj (hk 0 (by decide) (by kernel_rfl))
              have e0 := actOf_get 220 g ([] : List Deferred) 0 (by omega) p0
              clear hk hp
              refine wpOp_free rfl rfl ?_
              show Oper.wp _ _ _ W0 _ _
              replace hK := hide hK
              go_simp
              exact hK.out
            | 1, _, _, hK =>
              have p0 : g 0 = .slice (some ⟨b, 0, none⟩) n cap := Option.some.inj (hk 0 (by decide) (by kernel_rfl))
              have e0 := actOf_get 220 g ([] : List Deferred) 0 (by omega) p0
              clear hk hp
              refine wpOp_free rfl rfl ?_
              show Oper.wp _ _ _ W1 _ _
              replace hK := hide hK
              go_simp
              exact hK.out
            | 2, _, hm, _ => exact (Bool.false_ne_true ((show false = mayAt _ _ _ _ by kernel_rfl).trans hm)).elim
            | cI + 3, hcI, _, _ => exact absurd hcI (by simp)
          case o11 =>
            intro g hk hp cI hcI hm K hK
            match cI, hcI, hm, hK with
            | 0, _, _, hK =>
              have p13 : g 13 = .int .i64 (k : Int) := Option.some.inj (hk 13 (by decide) (by kernel_rfl))
              have e13 := actOf_get 220 g ([] : List Deferred) 13 (by omega) p13
              clear hk hp
              refine wpOp_free rfl rfl ?_
              show Oper.wp _ _ _ W0 _ _
              replace hK := hide hK
              go_simp
              exact hK.out
            | 1, _, _, hK =>
              have p13 : g 13 = .int .i64 (k : Int) := Option.some.inj (hk 13 (by decide) (by kernel_rfl))
              have e13 := actOf_get 220 g ([] : List Deferred) 13 (by omega) p13
              clear hk hp
              refine wpOp_free rfl rfl ?_
              show Oper.wp _ _ _ W1 _ _
              replace hK := hide hK
              go_simp
              exact hK.out
            | 2, _, hm, _ => exact (Bool.false_ne_true ((show false = mayAt _ _ _ _ by kernel_rfl).trans hm)).elim
            | cI + 3, hcI, _, _ => exact absurd hcI (by simp)
          case o12 =>
            intro g hk hp cI hcI hm K hK
            match cI, hcI, hm, hK with
            | 0, _, _, hK =>
              have p71 : g 71 = .slice (some ⟨b, 0, none⟩) n cap := hp 10 (by kernel_rfl) 71 (by kernel_rfl)
              have e71 := actOf_get 220 g ([] : List Deferred) 71 (by omega) p71
              have p72 : g 72 = .int .i64 (k : Int) := hp 11 (by kernel_rfl) 72 (by kernel_rfl)
              have e72 := actOf_get 220 g ([] : List Deferred) 72 (by omega) p72
              clear hk hp
              refine wpOp_free rfl rfl ?_
              show Oper.wp _ _ _ W0 _ _
              replace hK := hide hK
              go_simp
              exact hK.out
            | 1, _, _, hK =>
              have p71 : g 71 = .slice (some ⟨b, 0, none⟩) n cap := hp 10 (by kernel_rfl) 71 (by kernel_rfl)
              have e71 := actOf_get 220 g ([] : List Deferred) 71 (by omega) p71
              have p72 : g 72 = .int .i64 (k : Int) := hp 11 (by kernel_rfl) 72 (by kernel_rfl)
              have e72 := actOf_get 220 g ([] : List Deferred) 72 (by omega) p72
              clear hk hp
              refine wpOp_free rfl rfl ?_
              show Oper.wp _ _ _ W1 _ _
              replace hK := hide hK
              go_simp
              exact hK.out
            | 2, _, hm, _ => exact (Bool.false_ne_true ((show false = mayAt _ _ _ _ by kernel_rfl).trans hm)).elim
            | cI + 3, hcI, _, _ => exact absurd hcI (by simp)
          case o13 =>
            intro g hk hp cI hcI hm K hK
            match cI, hcI, hm, hK with
            | 0, _, _, hK =>
              have p73 : g 73 = .pointer (some ⟨b, k * 2, none⟩) := hp 12 (by kernel_rfl) 73 (by kernel_rfl)
              have e73 := actOf_get 220 g ([] : List Deferred) 73 (by omega) p73
              clear hk hp
              have lc0 := RD.out.dx1
              have lc1 := RD.out.dx2
              refine wpOp_free rfl rfl ?_
              show Oper.wp _ _ _ W0 _ _
              replace hK := hide hK
              go_simp
              exact hK.out
            | 1, _, hm, _ => exact (Bool.false_ne_true ((show false = mayAt _ _ _ _ by kernel_rfl).trans hm)).elim
            | 2, _, hm, _ => exact (Bool.false_ne_true ((show false = mayAt _ _ _ _ by kernel_rfl).trans hm)).elim
            | cI + 3, hcI, _, _ => exact absurd hcI (by simp)
          case o14 =>
            intro g hk hp cI hcI hm K hK
            match cI, hcI, hm, hK with
            | 0, _, _, hK =>
              have p61 : g 61 = .slice (some ⟨b, 0, none⟩) n cap := hp 0 (by kernel_rfl) 61 (by kernel_rfl)
              have e61 := actOf_get 220 g ([] : List Deferred) 61 (by omega) p61
              have p62 : g 62 = .int .i64 (k : Int) := hp 1 (by kernel_rfl) 62 (by kernel_rfl)
              have e62 := actOf_get 220 g ([] : List Deferred) 62 (by omega) p62
              clear hk hp
              refine wpOp_free rfl rfl ?_
              show Oper.wp _ _ _ W0 _ _
              replace hK := hide hK
              go_simp
              exact hK.out
            | 1, _, hm, _ => exact (Bool.false_ne_true ((show false = mayAt _ _ _ _ by kernel_rfl).trans hm)).elim
            | 2, _, hm, _ => exact (Bool.false_ne_true ((show false = mayAt _ _ _ _ by kernel_rfl).trans hm)).elim
            | cI + 3, hcI, _, _ => exact absurd hcI (by simp)
          case o15 =>
            intro g hk hp cI hcI hm K hK
            match cI, hcI, hm, hK with
            | 0, _, _, hK =>
              have p70 : g 70 = .agg #[.int .i64 y1, .int .i64 y2] := hp 9 (by kernel_rfl) 70 (by kernel_rfl)
              have e70 := actOf_get 220 g ([] : List Deferred) 70 (by omega) p70
              have p75 : g 75 = .pointer (some ⟨b, k * 2, none⟩) := hp 14 (by kernel_rfl) 75 (by kernel_rfl)
              have e75 := actOf_get 220 g ([] : List Deferred) 75 (by omega) p75
              clear hk hp
              have lc0 := RD.out.dx1
              have lc1 := RD.out.dx2
              have lc2 := RD.out.fx1
              have lc3 := RD.out.fx2
              refine wpOp_free rfl rfl ?_
              show Oper.wp _ _ _ W0 _ _
              replace hK := hide hK
              go_simp
              rw [← RD.out.e1]; exact hK.out
            | 1, _, hm, _ => exact (Bool.false_ne_true ((show false = mayAt _ _ _ _ by kernel_rfl).trans hm)).elim
            | 2, _, hm, _ => exact (Bool.false_ne_true ((show false = mayAt _ _ _ _ by kernel_rfl).trans hm)).elim
            | cI + 3, hcI, _, _ => exact absurd hcI (by simp)
          case o16 =>
            intro g hk hp cI hcI hm K hK
            match cI, hcI, hm, hK with
            | 0, _, hm, _ => exact (Bool.false_ne_true ((show false = mayAt _ _ _ _ by kernel_rfl).trans hm)).elim
            | 1, _, _, hK =>
              have p63 : g 63 = .slice (some ⟨b, 0, none⟩) n cap := hp 2 (by kernel_rfl) 63 (by kernel_rfl)
              have e63 := actOf_get 220 g ([] : List Deferred) 63 (by omega) p63
              have p65 : g 65 = .int .i64 (l : Int) := hp 4 (by kernel_rfl) 65 (by kernel_rfl)
              have e65 := actOf_get 220 g ([] : List Deferred) 65 (by omega) p65
              clear hk hp
              refine wpOp_free rfl rfl ?_
              show Oper.wp _ _ _ W1 _ _
              replace hK := hide hK
              go_simp
              exact hK.out
            | 2, _, hm, _ => exact (Bool.false_ne_true ((show false = mayAt _ _ _ _ by kernel_rfl).trans hm)).elim
            | cI + 3, hcI, _, _ => exact absurd hcI (by simp)
          case o17 =>
            intro g hk hp cI hcI hm K hK
            match cI, hcI, hm, hK with
            | 0, _, hm, _ => exact (Bool.false_ne_true ((show false = mayAt _ _ _ _ by kernel_rfl).trans hm)).elim
            | 1, _, _, hK =>
              have p74 : g 74 = .agg #[.int .i64 x1, .int .i64 x2] := hp 13 (by kernel_rfl) 74 (by kernel_rfl)
              have e74 := actOf_get 220 g ([] : List Deferred) 74 (by omega) p74
              have p76 : g 76 = .pointer (some ⟨b, l * 2, none⟩) := hp 16 (by kernel_rfl) 76 (by kernel_rfl)
              have e76 := actOf_get 220 g ([] : List Deferred) 76 (by omega) p76
              clear hk hp
              have lc0 := RD.out.dm1
              have lc1 := RD.out.dm2
              have lc2 := RD.out.fm1
              have lc3 := RD.out.fm2
              refine wpOp_free rfl rfl ?_
              show Oper.wp _ _ _ W1 _ _
              replace hK := hide hK
              go_simp
              rw [← RD.out.e2]; exact hK.out
            | 2, _, hm, _ => exact (Bool.false_ne_true ((show false = mayAt _ _ _ _ by kernel_rfl).trans hm)).elim
            | cI + 3, hcI, _, _ => exact absurd hcI (by simp)
          intro g hP
          clear hP
          have e2 : SA11W W0 W1 W2 (List.length [15, 17]) = W2 := rfl
          rw [e2]
          simp only [putAll, Act.put, List.setIfInBounds_toArray, List.set_cons_zero, List.set_cons_succ]
          clear e2
          go_wp2_with (fail)
          go_roundg (d - (k + 1))
          case measure => omega
          case rel => exact ⟨k + 1, u1 ++ [(y1, y2)], u2', by omega, by omega, Nat.le_refl _, by go_num, (hide (by rw [List.length_append, KL.out]; simp; omega)), (hide (by rw [UU.out, HU2.out]; simp)), (hide (by simpa using HOW.out)), grownBy_step GB2.out HGW.out⟩
        · have hlt3 : ¬ (k : Int) < (i : Int) - 1 := by omega
          have hkd2 : k = d := by omega
          have hfin : Ow 2 bkc 56 base wo (.slice (some ⟨b, 0, none⟩) n cap) (p ++ ((u ++ (x1, x2) :: v) ++ q)) := by
            have h1 := KL.out
            have h2 := UU.out
            have h3 := HUL.out
            have h4 : u2 = [] := by
              have := congrArg List.length h2
              rw [List.length_append] at this
              exact List.eq_nil_of_length_eq_zero (by omega)
            have := OW2.out
            rw [h4] at this
            rw [h2, h4]
            simpa using this
          have HFIN := hide hfin
          clear hfin hkd2
          go_wp2
          refine bodyPost_ret (results_none rfl _ _ _) rfl ?_
          exact ⟨rfl, _, HFIN.out, HRES.out.1, HRES.out.2, GB2.out⟩
end Go.Proofs.Ytiaifphidcfddaa
