/-
  The stable sort of backends: a merge whose second row is one backend.
-/
import Derived.Test.YtiaifphidcfddaaSwp
set_option linter.unusedVariables false
set_option linter.unusedSimpArgs false
namespace Go.Proofs.Ytiaifphidcfddaa
open Go.RowKit Go.Shelf

def TB17 (b n cap h m : Nat) (x1 x2 y1 y2 : Int) (z : Bool) : Nat → Value → World → Prop
  | 0, v, w => v = .func (.func 66) #[] #[]
  | 1, v, w => v = .slice (some ⟨b, 0, none⟩) n cap
  | 2, v, w => v = .int .i64 (m : Int)
  | 3, v, w => v = .pointer (some ⟨b, m * 2, none⟩)
  | 4, v, w => v = .agg #[.int .i64 x1, .int .i64 x2]
  | 5, v, w => v = .slice (some ⟨b, 0, none⟩) n cap
  | 6, v, w => v = .int .i64 (h : Int)
  | 7, v, w => v = .pointer (some ⟨b, h * 2, none⟩)
  | 8, v, w => v = .agg #[.int .i64 y1, .int .i64 y2]
  | 9, v, w => v = .int .i64 (cmpI x1 y1)
  | 10, v, w => v = .bool (decide (cmpI x1 y1 < 0))
  | 11, v, w => v = .bool z
  | _, _, _ => True
theorem TB17_st (b n cap h m : Nat) (x1 x2 y1 y2 : Int) (z : Bool) (i : Nat) (v : Value) (w w' : World) (hP0 : TB17 b n cap h m x1 x2 y1 y2 z i v w) (hb : Below w.heap.size w w') : TB17 b n cap h m x1 x2 y1 y2 z i v w' := by
  match i with
  | 0 => exact hP0
  | 1 => exact hP0
  | 2 => exact hP0
  | 3 => exact hP0
  | 4 => exact hP0
  | 5 => exact hP0
  | 6 => exact hP0
  | 7 => exact hP0
  | 8 => exact hP0
  | 9 => exact hP0
  | 10 => exact hP0
  | 11 => exact hP0
  | _ + 12 => trivial
def SB23V (b n cap k l : Nat) (x1 x2 y1 y2 : Int) : Nat → Value
  | 0 => .slice (some ⟨b, 0, none⟩) n cap
  | 1 => .int .i64 (k : Int)
  | 2 => .slice (some ⟨b, 0, none⟩) n cap
  | 3 => .int .i64 (k : Int)
  | 4 => .int .i64 (l : Int)
  | 5 => .slice (some ⟨b, 0, none⟩) n cap
  | 6 => .int .i64 (k : Int)
  | 7 => .int .i64 (l : Int)
  | 8 => .pointer (some ⟨b, l * 2, none⟩)
  | 9 => .agg #[.int .i64 y1, .int .i64 y2]
  | 10 => .slice (some ⟨b, 0, none⟩) n cap
  | 11 => .int .i64 (k : Int)
  | 12 => .pointer (some ⟨b, k * 2, none⟩)
  | 13 => .agg #[.int .i64 x1, .int .i64 x2]
  | 14 => .pointer (some ⟨b, k * 2, none⟩)
  | 15 => undef
  | 16 => .pointer (some ⟨b, l * 2, none⟩)
  | 17 => undef
  | _ => undef
def SB23W (W0 W1 W2 : World) : Nat → World
  | 0 => W0
  | 1 => W1
  | _ => W2

set_option maxRecDepth 100000 in
set_option maxHeartbeats 8000000 in
theorem SymB_calls (b n cap base a m e : Nat) (p s1 q : List Bk) (x1 x2 : Int) (w : World) (ho : Ow 2 bkc 56 base w (.slice (some ⟨b, 0, none⟩) n cap) (p ++ (s1 ++ (x1, x2) :: q))) (hA : a = p.length) (hM : m = a + s1.length) (hE : e = m + 1) (hs1 : Srt s1) (hm1 : s1.length ≠ 1) (hn : n ≤ 1048576) :
    Calls Try.prog 123 #[.slice (some ⟨b, 0, none⟩) n cap, .int .i64 (a : Int), .int .i64 (m : Int), .int .i64 (e : Int), .func (.func 66) #[] #[]] w fun e' w' => e' = .returned (.tuple #[]) ∧
      ∃ s', Ow 2 bkc 56 base w' (.slice (some ⟨b, 0, none⟩) n cap) (p ++ (s' ++ q)) ∧ Srt s' ∧ StEq (s1 ++ [(x1, x2)]) s' ∧ w.grownBy w' (some b) := by
  have eg : ∀ args w, (callFunc 66 args).run Try.prog w = .ok (.enter 66 args) w := enters_of Try.func66 (by kernel_rfl) rfl
  have hnl := ho.len_bk
  have hen : e ≤ n := by rw [hnl]; simp; omega
  have hma : m ≤ e := by omega
  have ham : a ≤ m := by omega
  have hone0 : ((m : Int) - (a : Int) == 1) = false := by rw [beq_eq_false_iff_ne]; omega
  have hone : ((e : Int) - (m : Int) == 1) = true := by rw [beq_iff_eq]; omega
  have hmn : (m : Int) < (n : Int) := by omega
  have HO := hide ho
  have HA := hide hA
  have HM := hide hM
  have HE := hide hE
  have HS := hide hs1
  clear ho hA hM hE hnl hs1 hm1
  go_enter Try.func123, Try.ntmps123
  go_wp2
  go_loopg [14, 15] (m - a) (fun gg s14 s15 wr => ∃ (i j : Nat), i ≤ j ∧ a ≤ i ∧ j ≤ m ∧ j - i ≤ gg ∧ s14 = .int .i64 (i : Int) ∧ s15 = .int .i64 (j : Int) ∧ Hid (∀ k y, s1[k]? = some y → (a + k < i → y.1 ≤ x1) ∧ (j ≤ a + k → x1 < y.1)) ∧ Hid (Ow 2 bkc 56 base wr (.slice (some ⟨b, 0, none⟩) n cap) (p ++ (s1 ++ (x1, x2) :: q))) ∧ Hid (w.grownBy wr (some b)))
  case atStart => exact ⟨a, m, ham, Nat.le_refl _, Nat.le_refl _, Nat.le_refl _, rfl, rfl, (hide (fun k y hk => ⟨fun h => by omega, fun h => by have := (List.getElem?_eq_some_iff.1 hk).1; have := HM.out; omega⟩)), HO, World.grownBy.refl _ _⟩
  case round =>
    obtain ⟨i, j, hij, him, hje, hg, rfl, rfl, HF, OW, GB⟩ := hrel
    obtain ⟨wq, hwq⟩ : ∃ wq, wq = wr := ⟨_, rfl⟩
    subst hwq
    by_cases hlt : i < j
    · have hltz : (i : Int) < (j : Int) := by omega
      have hjn : j ≤ 1048576 := by omega
      obtain ⟨h, hh⟩ : ∃ h, h = (i + j) / 2 := ⟨_, rfl⟩
      have hhz := hide (show ((i : Int) + (j : Int)) / 2 = (h : Int) by omega)
      have hih : i ≤ h := by omega
      have hhj : h < j := by omega
      obtain ⟨k, hk⟩ : ∃ k, k = h - a := ⟨_, rfl⟩
      have hkl2 : k < s1.length := by have := HM.out; omega
      obtain ⟨y1, y2, hyk⟩ : ∃ y1 y2, s1[k] = (y1, y2) := ⟨_, _, rfl⟩
      have hyq : s1[k]? = some (y1, y2) := by rw [List.getElem?_eq_getElem hkl2, hyk]
      have hx : (p ++ (s1 ++ (x1, x2) :: q))[m]? = some (x1, x2) := by
        have h1 := HA.out
        have h2 := HM.out
        rw [List.getElem?_append_right (by omega), show m - p.length = s1.length by omega, List.getElem?_append_right (Nat.le_refl _), Nat.sub_self]; rfl
      have hy : (p ++ (s1 ++ (x1, x2) :: q))[h]? = some (y1, y2) := by
        have h1 := HA.out
        rw [List.getElem?_append_right (by omega), show h - p.length = k by omega, List.getElem?_append_left hkl2]; exact hyq
      have cx1 := hide (OW.out.cells_at hx).1
      have cx2 := hide (OW.out.cells_at hx).2
      have cy1 := hide (OW.out.cells_at hy).1
      have cy2 := hide (OW.out.cells_at hy).2
      have hhn : (h : Int) < (n : Int) := by omega
      have hmk := hide (show a + k = h by omega)
      have HYQ := hide hyq
      obtain ⟨z, hz⟩ : ∃ z : Bool, (!decide (cmpI x1 y1 < 0)) = z := ⟨_, rfl⟩
      have hzz := hide hz
      have hb1 := hide (show h + 1 ≤ j by omega)
      clear hh hk hyk hyq hx hy hz
      go_wp2
      rw [hhz.out]
      refine wp_region_grow 220 [92, 93, 94, 95, 96, 97, 98, 99, 100, 101, 102, 103] (Below wq.heap.size wq) (TB17 b n cap h m x1 x2 y1 y2 z) (by kernel_rfl) (by kernel_rfl) rfl (by kernel_rfl) (by kernel_rfl) (Below.refl _ _).drew (TB17_st b n cap h m x1 x2 y1 y2 z) ⟨⟨⟨⟨⟨⟨⟨⟨⟨⟨⟨⟨trivial, ?o0⟩, ?o1⟩, ?o2⟩, ?o3⟩, ?o4⟩, ?o5⟩, ?o6⟩, ?o7⟩, ?o8⟩, ?o9⟩, ?o10⟩, ?o11⟩ ?_
      case o0 =>
        intro g wr hB hk hp K hK
        have p4 : g 4 = .func (.func 66) #[] #[] := Option.some.inj (hk 4 (by decide) (by kernel_rfl))
        have HB := hide hB
        clear hB hk hp
        have e4 := actOf_get 220 g ([] : List Deferred) 4 (by omega) p4
        refine wpOp_free rfl rfl ?_
        go_simp
        exact hK _ _ (Below.refl _ _) HB.out (by first | rfl | simp)
      case o1 =>
        intro g wr hB hk hp K hK
        have p0 : g 0 = .slice (some ⟨b, 0, none⟩) n cap := Option.some.inj (hk 0 (by decide) (by kernel_rfl))
        have HB := hide hB
        clear hB hk hp
        have e0 := actOf_get 220 g ([] : List Deferred) 0 (by omega) p0
        refine wpOp_free rfl rfl ?_
        go_simp
        exact hK _ _ (Below.refl _ _) HB.out (by first | rfl | simp)
      case o2 =>
        intro g wr hB hk hp K hK
        have p2 : g 2 = .int .i64 (m : Int) := Option.some.inj (hk 2 (by decide) (by kernel_rfl))
        have HB := hide hB
        clear hB hk hp
        have e2 := actOf_get 220 g ([] : List Deferred) 2 (by omega) p2
        refine wpOp_free rfl rfl ?_
        go_simp
        exact hK _ _ (Below.refl _ _) HB.out (by first | rfl | simp)
      case o3 =>
        intro g wr hB hk hp K hK
        have p93 : g 93 = .slice (some ⟨b, 0, none⟩) n cap := hp 1 (by kernel_rfl)
        have p94 : g 94 = .int .i64 (m : Int) := hp 2 (by kernel_rfl)
        have HB := hide hB
        clear hB hk hp
        have e93 := actOf_get 220 g ([] : List Deferred) 93 (by omega) p93
        have e94 := actOf_get 220 g ([] : List Deferred) 94 (by omega) p94
        refine wpOp_free rfl rfl ?_
        go_simp
        exact hK _ _ (Below.refl _ _) HB.out (by first | rfl | simp)
      case o4 =>
        intro g wr hB hk hp K hK
        have p95 : g 95 = .pointer (some ⟨b, m * 2, none⟩) := hp 3 (by kernel_rfl)
        have HB := hide hB
        clear hB hk hp
        have lc0 := cell_later HB.out cx1.out
        have lc1 := cell_later HB.out cx2.out
        have e95 := actOf_get 220 g ([] : List Deferred) 95 (by omega) p95
        refine wpOp_free rfl rfl ?_
        go_simp
        exact hK _ _ (Below.refl _ _) HB.out (by first | rfl | simp)
      case o5 =>
        intro g wr hB hk hp K hK
        have p0 : g 0 = .slice (some ⟨b, 0, none⟩) n cap := Option.some.inj (hk 0 (by decide) (by kernel_rfl))
        have HB := hide hB
        clear hB hk hp
        have e0 := actOf_get 220 g ([] : List Deferred) 0 (by omega) p0
        refine wpOp_free rfl rfl ?_
        go_simp
        exact hK _ _ (Below.refl _ _) HB.out (by first | rfl | simp)
      case o6 =>
        intro g wr hB hk hp K hK
        have p16 : g 16 = .int .i64 (h : Int) := Option.some.inj (hk 16 (by decide) (by kernel_rfl))
        have HB := hide hB
        clear hB hk hp
        have e16 := actOf_get 220 g ([] : List Deferred) 16 (by omega) p16
        refine wpOp_free rfl rfl ?_
        go_simp
        exact hK _ _ (Below.refl _ _) HB.out (by first | rfl | simp)
      case o7 =>
        intro g wr hB hk hp K hK
        have p97 : g 97 = .slice (some ⟨b, 0, none⟩) n cap := hp 5 (by kernel_rfl)
        have p98 : g 98 = .int .i64 (h : Int) := hp 6 (by kernel_rfl)
        have HB := hide hB
        clear hB hk hp
        have e97 := actOf_get 220 g ([] : List Deferred) 97 (by omega) p97
        have e98 := actOf_get 220 g ([] : List Deferred) 98 (by omega) p98
        refine wpOp_free rfl rfl ?_
        go_simp
        exact hK _ _ (Below.refl _ _) HB.out (by first | rfl | simp)
      case o8 =>
        intro g wr hB hk hp K hK
        have p99 : g 99 = .pointer (some ⟨b, h * 2, none⟩) := hp 7 (by kernel_rfl)
        have HB := hide hB
        clear hB hk hp
        have lc0 := cell_later HB.out cy1.out
        have lc1 := cell_later HB.out cy2.out
        have e99 := actOf_get 220 g ([] : List Deferred) 99 (by omega) p99
        refine wpOp_free rfl rfl ?_
        go_simp
        exact hK _ _ (Below.refl _ _) HB.out (by first | rfl | simp)
      case o9 =>
        intro g wr hB hk hp K hK
        have p92 : g 92 = .func (.func 66) #[] #[] := hp 0 (by kernel_rfl)
        have p96 : g 96 = .agg #[.int .i64 x1, .int .i64 x2] := hp 4 (by kernel_rfl)
        have p100 : g 100 = .agg #[.int .i64 y1, .int .i64 y2] := hp 8 (by kernel_rfl)
        have HB := hide hB
        clear hB hk hp
        have e92 := actOf_get 220 g ([] : List Deferred) 92 (by omega) p92
        have e96 := actOf_get 220 g ([] : List Deferred) 96 (by omega) p96
        have e100 := actOf_get 220 g ([] : List Deferred) 100 (by omega) p100
        refine wpOp_free rfl rfl ?_
        go_simp
        refine (cmpId_calls (x1, x2) (y1, y2) _).mono ?_
        rintro e w' ⟨rfl, hb⟩
        exact hK _ _ hb (below_then HB.out HB.out.size hb) rfl
      case o10 =>
        intro g wr hB hk hp K hK
        have p101 : g 101 = .int .i64 (cmpI x1 y1) := hp 9 (by kernel_rfl)
        have HB := hide hB
        clear hB hk hp
        have e101 := actOf_get 220 g ([] : List Deferred) 101 (by omega) p101
        refine wpOp_free rfl rfl ?_
        go_simp
        exact hK _ _ (Below.refl _ _) HB.out (by first | rfl | simp)
      case o11 =>
        intro g wr hB hk hp K hK
        have p102 : g 102 = .bool (decide (cmpI x1 y1 < 0)) := hp 10 (by kernel_rfl)
        have HB := hide hB
        clear hB hk hp
        have e102 := actOf_get 220 g ([] : List Deferred) 102 (by omega) p102
        refine wpOp_free rfl rfl ?_
        go_simp
        exact hK _ _ (Below.refl _ _) HB.out (congrArg Value.bool hzz.out)
      intro g wr hB hP
      have hp2 : g 103 = .bool z := hP 11 (by decide)
      have HB := hide hB
      clear hP hB
      simp only [putAll, Act.put, List.setIfInBounds_toArray, List.set_cons_zero, List.set_cons_succ, hp2]
      clear hp2
      cases z with
      | true =>
        go_wp2
        go_roundg (j - (h + 1))
        case measure => omega
        case rel => exact ⟨h + 1, j, hb1.out, by omega, hje, Nat.le_refl _, by go_num, rfl, (hide (fun k2 y hy2 => ⟨fun h3 => (by
            have h4 := cmpI_nneg (show ¬ cmpI x1 y1 < 0 by simpa using hzz.out)
            have h5 := HS.out
            unfold Srt at h5
            rw [List.pairwise_iff_getElem] at h5
            obtain ⟨g1, g2⟩ := List.getElem?_eq_some_iff.1 hy2
            obtain ⟨g3, g4⟩ := List.getElem?_eq_some_iff.1 HYQ.out
            by_cases e : k2 = k
            · subst e; rw [g2] at g4; rw [g4]; exact h4
            · have := h5 k2 k g1 g3 (by have := hmk.out; omega)
              rw [g2, g4] at this
              have h6 : y.1 ≤ y1 := this
              omega), (HF.out k2 y hy2).2⟩)), (hide (OW.out.below HB.out)), grownBy_below GB.out HB.out⟩
      | false =>
        go_wp2
        go_roundg (h - i)
        case measure => omega
        case rel => exact ⟨i, h, hih, him, by omega, Nat.le_refl _, rfl, rfl, (hide (fun k2 y hy2 => ⟨(HF.out k2 y hy2).1, fun h3 => (by
            have h4 := cmpI_neg (show cmpI x1 y1 < 0 by simpa using hzz.out)
            have h5 := HS.out
            unfold Srt at h5
            rw [List.pairwise_iff_getElem] at h5
            obtain ⟨g1, g2⟩ := List.getElem?_eq_some_iff.1 hy2
            obtain ⟨g3, g4⟩ := List.getElem?_eq_some_iff.1 HYQ.out
            by_cases e : k2 = k
            · subst e; rw [g2] at g4; rw [g4]; exact h4
            · have := h5 k k2 g3 g1 (by have := hmk.out; omega)
              rw [g2, g4] at this
              have h6 : y1 ≤ y.1 := this
              omega)⟩)), (hide (OW.out.below HB.out)), grownBy_below GB.out HB.out⟩
    · have hltz : ¬ (i : Int) < (j : Int) := by omega
      have : i = j := by omega
      subst this
      obtain ⟨u, v, huv, hul⟩ : ∃ u v, s1 = u ++ v ∧ a + u.length = i := ⟨s1.take (i - a), s1.drop (i - a), (List.take_append_drop _ _).symm, by rw [List.length_take, Nat.min_eq_left (by have := HM.out; omega)]; omega⟩
      have hres : Srt (u ++ (x1, x2) :: v) ∧ StEq (s1 ++ [(x1, x2)]) (u ++ (x1, x2) :: v) := by
        have h5 := HS.out
        rw [huv] at h5 ⊢
        have hv : ∀ y ∈ v, x1 < y.1 := fun y hy => by
          obtain ⟨k, hk, e⟩ := List.getElem_of_mem hy
          exact (HF.out (u.length + k) y (by rw [huv, List.getElem?_append_right (by omega), Nat.add_sub_cancel_left, List.getElem?_eq_getElem hk, e])).2 (by omega)
        refine ⟨srt_insert h5 hv (fun y hy => ?_), steq_insert hv⟩
        obtain ⟨k, hk, e⟩ := List.getElem_of_mem hy
        exact (HF.out k y (by rw [huv, List.getElem?_append_left hk, List.getElem?_eq_getElem hk, e])).1 (by omega)
      have HUL := hide hul
      have HML := hide (show m = i + v.length by have h1 := HM.out; rw [huv, List.length_append] at h1; omega)
      have HRES := hide hres
      have HUV := hide huv
      clear hres huv hul
      go_wp2
      go_loopg [17] (m - i) (fun gg s17 wr => ∃ (k : Nat) (v1 v2 : List Bk), i ≤ k ∧ k ≤ m ∧ k - i ≤ gg ∧ s17 = .int .i64 (k : Int) ∧ Hid (k = i + v1.length) ∧ Hid (v = v1 ++ v2) ∧ Hid (Ow 2 bkc 56 base wr (.slice (some ⟨b, 0, none⟩) n cap) (p ++ ((u ++ (v1 ++ (x1, x2) :: v2)) ++ q))) ∧ Hid (w.grownBy wr (some b)))
      case atStart => exact ⟨m, v, [], hje, Nat.le_refl _, Nat.le_refl _, rfl, HML, (hide (by simp)), (hide (by have := OW.out; rw [HUV.out] at this; simpa using this)), GB⟩
      case round =>
        obtain ⟨k, v1, v2, hik, hkm, hg3, rfl, KL, VV, OW2, GB2⟩ := hrel
        obtain ⟨wo, hwo⟩ : ∃ wo, wo = wr := ⟨_, rfl⟩
        subst hwo
        by_cases hlt2 : i < k
        · have hlt3 : (i : Int) < (k : Int) := by omega
          obtain ⟨v1', y, hv1⟩ : ∃ v1' y, v1 = v1' ++ [y] := by
            rcases List.eq_nil_or_concat v1 with e | ⟨v1', y, e⟩
            · have h1 := KL.out; rw [e] at h1; simp at h1; omega
            · exact ⟨v1', y, by rw [e, List.concat_eq_append]⟩
          obtain ⟨y1, y2⟩ := y
          obtain ⟨l, hl⟩ : ∃ l, l = i + v1'.length := ⟨_, rfl⟩
          have hkl1 : k = l + 1 := by have h1 := KL.out; rw [hv1, List.length_append] at h1; simp at h1; omega
          have hkl := hide (show IntKind.i64.wrap ((k : Int) - 1) = (l : Int) by rw [IntWalk.i64_in _ (by omega)]; omega)
          have hkn : (k : Int) < (n : Int) := by omega
          have hln : (l : Int) < (n : Int) := by omega
          have OW3 := OW2.out
          rw [hv1, show p ++ ((u ++ ((v1' ++ [(y1, y2)]) ++ (x1, x2) :: v2)) ++ q) = (p ++ u ++ v1') ++ (y1, y2) :: (x1, x2) :: (v2 ++ q) by simp] at OW3
          have hpl : l = (p ++ u ++ v1').length := by have := HUL.out; rw [List.length_append, List.length_append, ← HA.out]; omega
          have hx : ((p ++ u ++ v1') ++ (y1, y2) :: (x1, x2) :: (v2 ++ q))[k]? = some (x1, x2) := by rw [hkl1, hpl, List.getElem?_append_right (by omega), Nat.add_sub_cancel_left]; rfl
          have hy : ((p ++ u ++ v1') ++ (y1, y2) :: (x1, x2) :: (v2 ++ q))[l]? = some (y1, y2) := by rw [hpl, List.getElem?_append_right (Nat.le_refl _), Nat.sub_self]; rfl
          obtain ⟨W0, W1, W2, hRD, hOW, hGW⟩ := swap_ready OW3 k l x1 x2 y1 y2 hx hy (by omega)
          have RD := hide hRD
          rw [hkl1, swap_prev _ _ _ _ _ hpl] at hOW
          have HOW := hide hOW
          have HGW := hide hGW
          have HV1 := hide hv1
          have HL := hide hl
          have HKL := hide hkl1
          have hil : i ≤ l := by omega
          have hlm : l ≤ m := by omega
          clear OW3 hpl hx hy hRD hOW hGW hv1 hl hkl1
          go_wp2
          refine wp_region_fix 220 [113, 114, 115, 116, 117, 118, 119, 120, 121, 122, 123, 124, 125, 126, 127, 128] [1, 1, 1, 1, 2, 1, 1, 2, 3, 4, 1, 1, 2, 3, 5, 6, 7, 8] [15, 17] (SB23V b n cap k l x1 x2 y1 y2) (SB23W W0 W1 W2) (by kernel_rfl) (by kernel_rfl) (by kernel_rfl) (by kernel_rfl) rfl (by kernel_rfl) (by kernel_rfl) RD.out.e0 ⟨⟨⟨⟨⟨⟨⟨⟨⟨⟨⟨⟨⟨⟨⟨⟨⟨⟨trivial, ?o0⟩, ?o1⟩, ?o2⟩, ?o3⟩, ?o4⟩, ?o5⟩, ?o6⟩, ?o7⟩, ?o8⟩, ?o9⟩, ?o10⟩, ?o11⟩, ?o12⟩, ?o13⟩, ?o14⟩, ?o15⟩, ?o16⟩, ?o17⟩ ?_
          case o0 =>
            intro g hk hp cI hcI hm K hK
            match cI, hcI, hm, hK with
            | 0, _, _, hK =>
              have p0 : g 0 = .slice (some ⟨b, 0, none⟩) n cap := Option.some.inj (hk 0 (by decide) (by kernel_rfl))
              have e0 := actOf_get 220 g ([] : List Deferred) 0 (by omega) p0
              clear hk hp
              refine wpOp_free rfl rfl ?_
              show Oper.wp _ _ _ W0 _ _
              replace hK := hide hK
              go_simp
              exact hK.out
            | 1, _, hm, _ => exact (Bool.false_ne_true ((show false = mayAt _ _ _ _ by kernel_rfl).trans hm)).elim
            | 2, _, hm, _ => exact (Bool.false_ne_true ((show false = mayAt _ _ _ _ by kernel_rfl).trans hm)).elim
            | cI + 3, hcI, _, _ => exact absurd hcI (by simp)
          case o1 =>
            intro g hk hp cI hcI hm K hK
            match cI, hcI, hm, hK with
            | 0, _, _, hK =>
              have p17 : g 17 = .int .i64 (k : Int) := Option.some.inj (hk 17 (by decide) (by kernel_rfl))
              have e17 := actOf_get 220 g ([] : List Deferred) 17 (by omega) p17
              clear hk hp
              refine wpOp_free rfl rfl ?_
              show Oper.wp _ _ _ W0 _ _
              replace hK := hide hK
              go_simp
              exact hK.out
            | 1, _, hm, _ => exact (Bool.false_ne_true ((show false = mayAt _ _ _ _ by kernel_rfl).trans hm)).elim
            | 2, _, hm, _ => exact (Bool.false_ne_true ((show false = mayAt _ _ _ _ by kernel_rfl).trans hm)).elim
            | cI + 3, hcI, _, _ => exact absurd hcI (by simp)
          case o2 =>
            intro g hk hp cI hcI hm K hK
            match cI, hcI, hm, hK with
            | 0, _, _, hK =>
              have p0 : g 0 = .slice (some ⟨b, 0, none⟩) n cap := Option.some.inj (hk 0 (by decide) (by kernel_rfl))
              have e0 := actOf_get 220 g ([] : List Deferred) 0 (by omega) p0
              clear hk hp
              refine wpOp_free rfl rfl ?_
              show Oper.wp _ _ _ W0 _ _
              replace hK := hide hK
              go_simp
              exact hK.out
            | 1, _, _, hK =>
              have p0 : g 0 = .slice (some ⟨b, 0, none⟩) n cap := Option.some.inj (hk 0 (by decide) (by kernel_rfl))
              have e0 := actOf_get 220 g ([] : List Deferred) 0 (by omega) p0
              clear hk hp
              refine wpOp_free rfl rfl ?_
              show Oper.wp _ _ _ W1 _ _
              replace hK := hide hK
              go_simp
              exact hK.out
            | 2, _, hm, _ => exact (Bool.false_ne_true ((show false = mayAt _ _ _ _ by kernel_rfl).trans hm)).elim
            | cI + 3, hcI, _, _ => exact absurd hcI (by simp)
          case o3 =>
            intro g hk hp cI hcI hm K hK
            match cI, hcI, hm, hK with
            | 0, _, _, hK =>
              have p17 : g 17 = .int .i64 (k : Int) := Option.some.inj (hk 17 (by decide) (by kernel_rfl))
              have e17 := actOf_get 220 g ([] : List Deferred) 17 (by omega) p17
              clear hk hp
              refine wpOp_free rfl rfl ?_
              show Oper.wp _ _ _ W0 _ _
              replace hK := hide hK
              go_simp
              exact hK.out
            | 1, _, _, hK =>
              have p17 : g 17 = .int .i64 (k : Int) := Option.some.inj (hk 17 (by decide) (by kernel_rfl))
              have e17 := actOf_get 220 g ([] : List Deferred) 17 (by omega) p17
              clear hk hp
              refine wpOp_free rfl rfl ?_
              show Oper.wp _ _ _ W1 _ _
              replace hK := hide hK
              go_simp
              exact hK.out
            | 2, _, hm, _ => exact (Bool.false_ne_true ((show false = mayAt _ _ _ _ by kernel_rfl).trans hm)).elim
            | cI + 3, hcI, _, _ => exact absurd hcI (by simp)
          case o4 =>
            intro g hk hp cI hcI hm K hK
            match cI, hcI, hm, hK with
            | 0, _, _, hK =>
              have p116 : g 116 = .int .i64 (k : Int) := hp 3 (by kernel_rfl) 116 (by kernel_rfl)
              have e116 := actOf_get 220 g ([] : List Deferred) 116 (by omega) p116
              clear hk hp
              refine wpOp_free rfl rfl ?_
              show Oper.wp _ _ _ W0 _ _
              replace hK := hide hK
              go_simp
              rw [hkl.out]; exact hK.out
            | 1, _, _, hK =>
              have p116 : g 116 = .int .i64 (k : Int) := hp 3 (by kernel_rfl) 116 (by kernel_rfl)
              have e116 := actOf_get 220 g ([] : List Deferred) 116 (by omega) p116
              clear hk hp
              refine wpOp_free rfl rfl ?_
              show Oper.wp _ _ _ W1 _ _
              replace hK := hide hK
              go_simp
              rw [hkl.out]; exact hK.out
            | 2, _, hm, _ => exact (Bool.false_ne_true ((show false = mayAt _ _ _ _ by kernel_rfl).trans hm)).elim
            | cI + 3, hcI, _, _ => exact absurd hcI (by simp)
          case o5 =>
            intro g hk hp cI hcI hm K hK
            match cI, hcI, hm, hK with
            | 0, _, _, hK =>
              have p0 : g 0 = .slice (some ⟨b, 0, none⟩) n cap := Option.some.inj (hk 0 (by decide) (by kernel_rfl))
              have e0 := actOf_get 220 g ([] : List Deferred) 0 (by omega) p0
              clear hk hp
              refine wpOp_free rfl rfl ?_
              show Oper.wp _ _ _ W0 _ _
              replace hK := hide hK
              go_simp
              exact hK.out
            | 1, _, hm, _ => exact (Bool.false_ne_true ((show false = mayAt _ _ _ _ by kernel_rfl).trans hm)).elim
            | 2, _, hm, _ => exact (Bool.false_ne_true ((show false = mayAt _ _ _ _ by kernel_rfl).trans hm)).elim
            | cI + 3, hcI, _, _ => exact absurd hcI (by simp)
          case o6 =>
            intro g hk hp cI hcI hm K hK
            match cI, hcI, hm, hK with
            | 0, _, _, hK =>
              have p17 : g 17 = .int .i64 (k : Int) := Option.some.inj (hk 17 (by decide) (by kernel_rfl))
              have e17 := actOf_get 220 g ([] : List Deferred) 17 (by omega) p17
              clear hk hp
              refine wpOp_free rfl rfl ?_
              show Oper.wp _ _ _ W0 _ _
              replace hK := hide hK
              go_simp
              exact hK.out
            | 1, _, hm, _ => exact (Bool.false_ne_true ((show false = mayAt _ _ _ _ by kernel_rfl).trans hm)).elim
            | 2, _, hm, _ => exact (Bool.false_ne_true ((show false = mayAt _ _ _ _ by kernel_rfl).trans hm)).elim
            | cI + 3, hcI, _, _ => exact absurd hcI (by simp)
          case o7 =>
            intro g hk hp cI hcI hm K hK
            match cI, hcI, hm, hK with
            | 0, _, _, hK =>
              have p119 : g 119 = .int .i64 (k : Int) := hp 6 (by kernel_rfl) 119 (by kernel_rfl)
              have e119 := actOf_get 220 g ([] : List Deferred) 119 (by omega) p119
              clear hk hp
              refine wpOp_free rfl rfl ?_
              show Oper.wp _ _ _ W0 _ _
              replace hK := hide hK
              go_simp
              rw [hkl.out]; exact hK.out
            | 1, _, hm, _ => exact (Bool.false_ne_true ((show false = mayAt _ _ _ _ by kernel_rfl).trans hm)).elim
            | 2, _, hm, _ => exact (Bool.false_ne_true ((show false = mayAt _ _ _ _ by kernel_rfl).trans hm)).elim
            | cI + 3, hcI, _, _ => exact absurd hcI (by simp)
          case o8 =>
            intro g hk hp cI hcI hm K hK
            match cI, hcI, hm, hK with
            | 0, _, _, hK =>
              have p118 : g 118 = .slice (some ⟨b, 0, none⟩) n cap := hp 5 (by kernel_rfl) 118 (by kernel_rfl)
              have e118 := actOf_get 220 g ([] : List Deferred) 118 (by omega) p118
              have p120 : g 120 = .int .i64 (l : Int) := hp 7 (by kernel_rfl) 120 (by kernel_rfl)
              have e120 := actOf_get 220 g ([] : List Deferred) 120 (by omega) p120
              clear hk hp
              refine wpOp_free rfl rfl ?_
              show Oper.wp _ _ _ W0 _ _
              replace hK := hide hK
              go_simp
              exact hK.out
            | 1, _, hm, _ => exact (Bool.false_ne_true ((show false = mayAt _ _ _ _ by kernel_rfl).trans hm)).elim
            | 2, _, hm, _ => exact (Bool.false_ne_true ((show false = mayAt _ _ _ _ by kernel_rfl).trans hm)).elim
            | cI + 3, hcI, _, _ => exact absurd hcI (by simp)
          case o9 =>
            intro g hk hp cI hcI hm K hK
            match cI, hcI, hm, hK with
            | 0, _, _, hK =>
              have p121 : g 121 = .pointer (some ⟨b, l * 2, none⟩) := hp 8 (by kernel_rfl) 121 (by kernel_rfl)
              have e121 := actOf_get 220 g ([] : List Deferred) 121 (by omega) p121
              clear hk hp
              have lc0 := RD.out.dy1
              have lc1 := RD.out.dy2
              refine wpOp_free rfl rfl ?_
              show Oper.wp _ _ _ W0 _ _
              replace hK := hide hK
              go_simp
              exact hK.out
            | 1, _, hm, _ => exact (Bool.false_ne_true ((show false = mayAt _ _ _ _ by kernel_rfl).trans hm)).elim
            | 2, _, hm, _ => exact (Bool.false_ne_true ((show false = mayAt _ _ _ _ by kernel_rfl).trans hm)).elim
            | cI + 3, hcI, _, _ => exact absurd hcI (by simp)
          case o10 =>
            intro g hk hp cI hcI hm K hK
            match cI, hcI, hm, hK with
            | 0, _, _, hK =>
              have p0 : g 0 = .slice (some ⟨b, 0, none⟩) n cap := Option.some.inj (hk 0 (by decide) (by kernel_rfl))
              have e0 := actOf_get 220 g ([] : List Deferred) 0 (by omega) p0
              clear hk hp
              refine wpOp_free rfl rfl ?_
              show Oper.wp _ _ _ W0 _ _
              replace hK := hide hK
              go_simp
              exact hK.out
            | 1, _, _, hK =>
              have p0 : g 0 = .slice (some ⟨b, 0, none⟩) n cap := Option.some.inj (hk 0 (by decide) (by kernel_rfl))
              have e0 := actOf_get 220 g ([] : List Deferred) 0 (by omega) p0
              clear hk hp
              refine wpOp_free rfl rfl ?_
              show Oper.wp _ _ _ W1 _ _
              replace hK := hide hK
              go_simp
              exact hK.out
            | 2, _, hm, _ => exact (Bool.false_ne_true ((show false = mayAt _ _ _ _ by kernel_rfl).trans hm)).elim
            | cI + 3, hcI, _, _ => exact absurd hcI (by simp)
          case o11 =>
            intro g hk hp cI hcI hm K hK
            match cI, hcI, hm, hK with
            | 0, _, _, hK =>
              have p17 : g 17 = .int .i64 (k : Int) := Option.some.inj (hk 17 (by decide) (by kernel_rfl))
              have e17 := actOf_get 220 g ([] : List Deferred) 17 (by omega) p17
              clear hk hp
              refine wpOp_free rfl rfl ?_
              show Oper.wp _ _ _ W0 _ _
              replace hK := hide hK
              go_simp
              exact hK.out
            | 1, _, _, hK =>
              have p17 : g 17 = .int .i64 (k : Int) := Option.some.inj (hk 17 (by decide) (by kernel_rfl))
              have e17 := actOf_get 220 g ([] : List Deferred) 17 (by omega) p17
              clear hk hp
              refine wpOp_free rfl rfl ?_
              show Oper.wp _ _ _ W1 _ _
              replace hK := hide hK
              go_simp
              exact hK.out
            | 2, _, hm, _ => exact (Bool.false_ne_true ((show false = mayAt _ _ _ _ by kernel_rfl).trans hm)).elim
            | cI + 3, hcI, _, _ => exact absurd hcI (by simp)
          case o12 =>
            intro g hk hp cI hcI hm K hK
            match cI, hcI, hm, hK with
            | 0, _, _, hK =>
              have p123 : g 123 = .slice (some ⟨b, 0, none⟩) n cap := hp 10 (by kernel_rfl) 123 (by kernel_rfl)
              have e123 := actOf_get 220 g ([] : List Deferred) 123 (by omega) p123
              have p124 : g 124 = .int .i64 (k : Int) := hp 11 (by kernel_rfl) 124 (by kernel_rfl)
              have e124 := actOf_get 220 g ([] : List Deferred) 124 (by omega) p124
              clear hk hp
              refine wpOp_free rfl rfl ?_
              show Oper.wp _ _ _ W0 _ _
              replace hK := hide hK
              go_simp
              exact hK.out
            | 1, _, _, hK =>
              have p123 : g 123 = .slice (some ⟨b, 0, none⟩) n cap := hp 10 (by kernel_rfl) 123 (by kernel_rfl)
              have e123 := actOf_get 220 g ([] : List Deferred) 123 (by omega) p123
              have p124 : g 124 = .int .i64 (k : Int) := hp 11 (by kernel_rfl) 124 (by kernel_rfl)
              have e124 := actOf_get 220 g ([] : List Deferred) 124 (by omega) p124
              clear hk hp
              refine wpOp_free rfl rfl ?_
              show Oper.wp _ _ _ W1 _ _
              replace hK := hide hK
              go_simp
              exact hK.out
            | 2, _, hm, _ => exact (Bool.false_ne_true ((show false = mayAt _ _ _ _ by kernel_rfl).trans hm)).elim
            | cI + 3, hcI, _, _ => exact absurd hcI (by simp)
          case o13 =>
            intro g hk hp cI hcI hm K hK
            match cI, hcI, hm, hK with
            | 0, _, _, hK =>
              have p125 : g 125 = .pointer (some ⟨b, k * 2, none⟩) := hp 12 (by kernel_rfl) 125 (by kernel_rfl)
              have e125 := actOf_get 220 g ([] : List Deferred) 125 (by omega) p125
              clear hk hp
              have lc0 := RD.out.dx1
              have lc1 := RD.out.dx2
              refine wpOp_free rfl rfl ?_
              show Oper.wp _ _ _ W0 _ _
              replace hK := hide hK
              go_simp
              exact hK.out
            | 1, _, hm, _ => exact (Bool.false_ne_true ((show false = mayAt _ _ _ _ by kernel_rfl).trans hm)).elim
            | 2, _, hm, _ => exact (Bool.false_ne_true ((show false = mayAt _ _ _ _ by kernel_rfl).trans hm)).elim
            | cI + 3, hcI, _, _ => exact absurd hcI (by simp)
          case o14 =>
            intro g hk hp cI hcI hm K hK
            match cI, hcI, hm, hK with
            | 0, _, _, hK =>
              have p113 : g 113 = .slice (some ⟨b, 0, none⟩) n cap := hp 0 (by kernel_rfl) 113 (by kernel_rfl)
              have e113 := actOf_get 220 g ([] : List Deferred) 113 (by omega) p113
              have p114 : g 114 = .int .i64 (k : Int) := hp 1 (by kernel_rfl) 114 (by kernel_rfl)
              have e114 := actOf_get 220 g ([] : List Deferred) 114 (by omega) p114
              clear hk hp
              refine wpOp_free rfl rfl ?_
              show Oper.wp _ _ _ W0 _ _
              replace hK := hide hK
              go_simp
              exact hK.out
            | 1, _, hm, _ => exact (Bool.false_ne_true ((show false = mayAt _ _ _ _ by kernel_rfl).trans hm)).elim
            | 2, _, hm, _ => exact (Bool.false_ne_true ((show false = mayAt _ _ _ _ by kernel_rfl).trans hm)).elim
            | cI + 3, hcI, _, _ => exact absurd hcI (by simp)
          case o15 =>
            intro g hk hp cI hcI hm K hK
            match cI, hcI, hm, hK with
            | 0, _, _, hK =>
              have p122 : g 122 = .agg #[.int .i64 y1, .int .i64 y2] := hp 9 (by kernel_rfl) 122 (by kernel_rfl)
              have e122 := actOf_get 220 g ([] : List Deferred) 122 (by omega) p122
              have p127 : g 127 = .pointer (some ⟨b, k * 2, none⟩) := hp 14 (by kernel_rfl) 127 (by kernel_rfl)
              have e127 := actOf_get 220 g ([] : List Deferred) 127 (by omega) p127
              clear hk hp
              have lc0 := RD.out.dx1
              have lc1 := RD.out.dx2
              have lc2 := RD.out.fx1
              have lc3 := RD.out.fx2
              refine wpOp_free rfl rfl ?_
              show Oper.wp _ _ _ W0 _ _
              replace hK := hide hK
              go_simp
              rw [← RD.out.e1]; exact hK.out
            | 1, _, hm, _ => exact (Bool.false_ne_true ((show false = mayAt _ _ _ _ by kernel_rfl).trans hm)).elim
            | 2, _, hm, _ => exact (Bool.false_ne_true ((show false = mayAt _ _ _ _ by kernel_rfl).trans hm)).elim
            | cI + 3, hcI, _, _ => exact absurd hcI (by simp)
          case o16 =>
            intro g hk hp cI hcI hm K hK
            match cI, hcI, hm, hK with
            | 0, _, hm, _ => exact (Bool.false_ne_true ((show false = mayAt _ _ _ _ by kernel_rfl).trans hm)).elim
            | 1, _, _, hK =>
              have p115 : g 115 = .slice (some ⟨b, 0, none⟩) n cap := hp 2 (by kernel_rfl) 115 (by kernel_rfl)
              have e115 := actOf_get 220 g ([] : List Deferred) 115 (by omega) p115
              have p117 : g 117 = .int .i64 (l : Int) := hp 4 (by kernel_rfl) 117 (by kernel_rfl)
              have e117 := actOf_get 220 g ([] : List Deferred) 117 (by omega) p117
              clear hk hp
              refine wpOp_free rfl rfl ?_
              show Oper.wp _ _ _ W1 _ _
              replace hK := hide hK
              go_simp
              exact hK.out
            | 2, _, hm, _ => exact (Bool.false_ne_true ((show false = mayAt _ _ _ _ by kernel_rfl).trans hm)).elim
            | cI + 3, hcI, _, _ => exact absurd hcI (by simp)
          case o17 =>
            intro g hk hp cI hcI hm K hK
            match cI, hcI, hm, hK with
            | 0, _, hm, _ => exact (Bool.false_ne_true ((show false = mayAt _ _ _ _ by kernel_rfl).trans hm)).elim
            | 1, _, _, hK =>
              have p126 : g 126 = .agg #[.int .i64 x1, .int .i64 x2] := hp 13 (by kernel_rfl) 126 (by kernel_rfl)
              have e126 := actOf_get 220 g ([] : List Deferred) 126 (by omega) p126
              have p128 : g 128 = .pointer (some ⟨b, l * 2, none⟩) := hp 16 (by kernel_rfl) 128 (by kernel_rfl)
              have e128 := actOf_get 220 g ([] : List Deferred) 128 (by omega) p128
              clear hk hp
              have lc0 := RD.out.dm1
              have lc1 := RD.out.dm2
              have lc2 := RD.out.fm1
              have lc3 := RD.out.fm2
              refine wpOp_free rfl rfl ?_
              show Oper.wp _ _ _ W1 _ _
              replace hK := hide hK
              go_simp
              rw [← RD.out.e2]; exact hK.out
            | 2, _, hm, _ => exact (Bool.false_ne_true ((show false = mayAt _ _ _ _ by kernel_rfl).trans hm)).elim
            | cI + 3, hcI, _, _ => exact absurd hcI (by simp)
          intro g hP
          clear hP
          have e2 : SB23W W0 W1 W2 (List.length [15, 17]) = W2 := rfl
          rw [e2]
          simp only [putAll, Act.put, List.setIfInBounds_toArray, List.set_cons_zero, List.set_cons_succ]
          clear e2
          go_wp2_with (fail)
          go_roundg (l - i)
          case measure => have := HKL.out; omega
          case rel => exact ⟨l, v1', (y1, y2) :: v2, hil, hlm, Nat.le_refl _, congrArg (Value.int .i64) (by have := HKL.out; omega), HL, (hide (by rw [VV.out, HV1.out]; simp)), (hide (by simpa using HOW.out)), grownBy_step GB2.out HGW.out⟩
        · have hlt3 : ¬ (i : Int) < (k : Int) := by omega
          have hfin : Ow 2 bkc 56 base wo (.slice (some ⟨b, 0, none⟩) n cap) (p ++ ((u ++ (x1, x2) :: v) ++ q)) := by
            have h1 := KL.out
            have h4 : v1 = [] := List.eq_nil_of_length_eq_zero (by omega)
            have h2 := VV.out
            rw [h4, List.nil_append] at h2
            have := OW2.out
            rw [h4] at this
            rw [h2]
            simpa using this
          have HFIN := hide hfin
          clear hfin
          go_wp2
          refine bodyPost_ret (results_none rfl _ _ _) rfl ?_
          exact ⟨rfl, _, HFIN.out, HRES.out.1, HRES.out.2, GB2.out⟩
end Go.Proofs.Ytiaifphidcfddaa
