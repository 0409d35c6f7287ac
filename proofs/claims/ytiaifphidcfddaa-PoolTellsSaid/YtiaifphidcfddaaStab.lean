/-
  The stable sort of backends: insertion sort's contract.
-/
import Derived.Test.YtiaifphidcfddaaFix
import Derived.Test.YtiaifphidcfddaaSeq
import Derived.Test.YtiaifphidcfddaaStabP
import Derived.IntWalk
set_option linter.unusedVariables false
set_option linter.unusedSimpArgs false
namespace Go.Proofs.Ytiaifphidcfddaa
open Go.RowKit Go.Shelf

def cmpI (x y : Int) : Int := if x < y then -1 else if y < x then 1 else 0

theorem cmpI_neg {x y : Int} (h : cmpI x y < 0) : x < y := by
  unfold cmpI at h
  by_cases h1 : x < y
  · exact h1
  · rw [if_neg h1] at h; split at h <;> omega
theorem cmpI_nneg {x y : Int} (h : ¬ cmpI x y < 0) : y ≤ x := by
  unfold cmpI at h
  by_cases h1 : x < y
  · rw [if_pos h1] at h; omega
  · omega

theorem Compare_calls (x y : Int) (w : World) : Calls Try.prog 67 #[.int .i64 x, .int .i64 y] w fun e w' => e = .returned (.int .i64 (cmpI x y)) ∧ w' = w := by
  have hx : (x != x) = false := by simp
  have hy : (y != y) = false := by simp
  by_cases h1 : x < y
  · have e : cmpI x y = -1 := by simp [cmpI, h1]
    rw [e]
    go_enter Try.func67, Try.ntmps67
    go_wp2
    go_ret
    exact ⟨rfl, rfl⟩
  · by_cases h2 : y < x
    · have e : cmpI x y = 1 := by simp [cmpI, h1, h2]
      rw [e]
      go_enter Try.func67, Try.ntmps67
      go_wp2
      go_ret
      exact ⟨rfl, rfl⟩
    · have e : cmpI x y = 0 := by simp [cmpI, h1, h2]
      rw [e]
      go_enter Try.func67, Try.ntmps67
      go_wp2
      go_ret
      exact ⟨rfl, rfl⟩

theorem cmpId_calls (x y : Bk) (w : World) : Calls Try.prog 66 #[.agg #[.int .i64 x.1, .int .i64 x.2], .agg #[.int .i64 y.1, .int .i64 y.2]] w fun e w' => e = .returned (.int .i64 (cmpI x.1 y.1)) ∧ Below w.heap.size w w' := by
  have hb : Below w.heap.size w ((w.alloc (.cells #[.int .i64 x.1, .int .i64 x.2] 56)).alloc (.cells #[.int .i64 y.1, .int .i64 y.2] 56)) := ((Below.refl _ w).alloc (Nat.le_refl _) _).alloc (by simp) _
  have HB := hide hb
  clear hb
  go_enter Try.func66, Try.ntmps66
  go_wp2_with (go_at_call 67; refine (Compare_calls _ _ _).mono ?_; rintro e w' ⟨rfl, rfl⟩)
  go_ret
  exact ⟨rfl, HB.out⟩

def Tst0 (j a : Nat) : Nat → Value → World → Prop
  | 0, v, w => v = .int .i64 (j : Int)
  | 1, v, w => v = .int .i64 (a : Int)
  | 2, v, w => v = .bool false
  | 3, v, w => v = .bool false
  | 4, v, w => v = undef
  | 5, v, w => v = undef
  | 6, v, w => v = undef
  | 7, v, w => v = undef
  | 8, v, w => v = undef
  | 9, v, w => v = undef
  | 10, v, w => v = undef
  | 11, v, w => v = undef
  | 12, v, w => v = undef
  | 13, v, w => v = undef
  | 14, v, w => v = undef
  | 15, v, w => v = undef
  | 16, v, w => v = .bool false
  | _, _, _ => True
theorem Tst0_st (j a : Nat) (i : Nat) (v : Value) (w w' : World) (h : Tst0 j a i v w) (hb : Below w.heap.size w w') : Tst0 j a i v w' := by
  match i with
  | 0 => exact h
  | 1 => exact h
  | 2 => exact h
  | 3 => exact h
  | 4 => exact h
  | 5 => exact h
  | 6 => exact h
  | 7 => exact h
  | 8 => exact h
  | 9 => exact h
  | 10 => exact h
  | 11 => exact h
  | 12 => exact h
  | 13 => exact h
  | 14 => exact h
  | 15 => exact h
  | 16 => exact h
  | _ + 17 => trivial
def Tst1 (b n cap j m a : Nat) (x1 x2 y1 y2 : Int) (c : Bool) : Nat → Value → World → Prop
  | 0, v, w => v = .int .i64 (j : Int)
  | 1, v, w => v = .int .i64 (a : Int)
  | 2, v, w => v = .bool true
  | 3, v, w => v = .bool true
  | 4, v, w => v = .func (.func 66) #[] #[]
  | 5, v, w => v = .slice (some ⟨b, 0, none⟩) n cap
  | 6, v, w => v = .int .i64 (j : Int)
  | 7, v, w => v = .pointer (some ⟨b, j * 2, none⟩)
  | 8, v, w => v = .agg #[.int .i64 x1, .int .i64 x2]
  | 9, v, w => v = .slice (some ⟨b, 0, none⟩) n cap
  | 10, v, w => v = .int .i64 (j : Int)
  | 11, v, w => v = .int .i64 (m : Int)
  | 12, v, w => v = .pointer (some ⟨b, m * 2, none⟩)
  | 13, v, w => v = .agg #[.int .i64 y1, .int .i64 y2]
  | 14, v, w => v = .int .i64 (cmpI x1 y1)
  | 15, v, w => v = .bool c
  | 16, v, w => v = .bool c
  | _, _, _ => True
theorem Tst1_st (b n cap j m a : Nat) (x1 x2 y1 y2 : Int) (c : Bool) (i : Nat) (v : Value) (w w' : World) (h : Tst1 b n cap j m a x1 x2 y1 y2 c i v w) (hb : Below w.heap.size w w') : Tst1 b n cap j m a x1 x2 y1 y2 c i v w' := by
  match i with
  | 0 => exact h
  | 1 => exact h
  | 2 => exact h
  | 3 => exact h
  | 4 => exact h
  | 5 => exact h
  | 6 => exact h
  | 7 => exact h
  | 8 => exact h
  | 9 => exact h
  | 10 => exact h
  | 11 => exact h
  | 12 => exact h
  | 13 => exact h
  | 14 => exact h
  | 15 => exact h
  | 16 => exact h
  | _ + 17 => trivial
def Sw6V (b n cap j m : Nat) (x1 x2 y1 y2 : Int) : Nat → Value
  | 0 => .slice (some ⟨b, 0, none⟩) n cap
  | 1 => .int .i64 (j : Int)
  | 2 => .slice (some ⟨b, 0, none⟩) n cap
  | 3 => .int .i64 (j : Int)
  | 4 => .int .i64 (m : Int)
  | 5 => .slice (some ⟨b, 0, none⟩) n cap
  | 6 => .int .i64 (j : Int)
  | 7 => .int .i64 (m : Int)
  | 8 => .pointer (some ⟨b, m * 2, none⟩)
  | 9 => .agg #[.int .i64 y1, .int .i64 y2]
  | 10 => .slice (some ⟨b, 0, none⟩) n cap
  | 11 => .int .i64 (j : Int)
  | 12 => .pointer (some ⟨b, j * 2, none⟩)
  | 13 => .agg #[.int .i64 x1, .int .i64 x2]
  | 14 => .pointer (some ⟨b, j * 2, none⟩)
  | 15 => undef
  | 16 => .pointer (some ⟨b, m * 2, none⟩)
  | 17 => undef
  | _ => undef
def Sw6W (W0 W1 W2 : World) : Nat → World
  | 0 => W0
  | 1 => W1
  | _ => W2

theorem at_mid (p u q : List Bk) (x : Bk) (A j : Nat) (hA : A = p.length) (hj : j = A + u.length) (r : List Bk) : (p ++ (u ++ x :: r) ++ q)[j]? = some x := by
  subst hA hj
  rw [List.append_assoc, List.getElem?_append_right (by omega), Nat.add_sub_cancel_left, List.append_assoc, List.getElem?_append_right (Nat.le_refl _), Nat.sub_self]
  rfl

theorem srt_insert {u1 u2 : List Bk} {x : Bk} (h : Srt (u1 ++ u2)) (h2 : ∀ y ∈ u2, x.1 < y.1) (h1 : ∀ y ∈ u1, y.1 ≤ x.1) : Srt (u1 ++ x :: u2) := by
  unfold Srt at h ⊢
  rw [List.pairwise_append] at h ⊢
  refine ⟨h.1, List.pairwise_cons.2 ⟨fun y hy => by have := h2 y hy; omega, h.2.1⟩, fun y hy z hz => ?_⟩
  rcases List.mem_cons.1 hz with rfl | hz
  · exact h1 y hy
  · exact h.2.2 y hy z hz
theorem steq_insert {u1 u2 : List Bk} {x : Bk} (h2 : ∀ y ∈ u2, x.1 < y.1) : StEq (u1 ++ u2 ++ [x]) (u1 ++ x :: u2) := by
  rw [List.append_assoc]
  refine (StEq.refl u1).append ?_
  have := StEq.rot (u := u2) (v := [x]) (fun y hy z hz => by simp at hz; subst hz; have := h2 y hy; omega)
  simpa using this

set_option maxRecDepth 100000 in
set_option maxHeartbeats 8000000 in
theorem Ins_calls (b n cap base a E : Nat) (p s q : List Bk) (w : World) (ho : Ow 2 bkc 56 base w (.slice (some ⟨b, 0, none⟩) n cap) (p ++ s ++ q)) (hA : a = p.length) (hE : E = a + s.length) (hn : n ≤ 1048576) :
    Calls Try.prog 122 #[.slice (some ⟨b, 0, none⟩) n cap, .int .i64 (a : Int), .int .i64 (E : Int), .func (.func 66) #[] #[]] w fun e w' => e = .returned (.tuple #[]) ∧
      ∃ s', Ow 2 bkc 56 base w' (.slice (some ⟨b, 0, none⟩) n cap) (p ++ s' ++ q) ∧ Srt s' ∧ StEq s s' ∧ w.grownBy w' (some b) := by
  have eg : ∀ args w, (callFunc 66 args).run Try.prog w = .ok (.enter 66 args) w := enters_of Try.func66 (by kernel_rfl) rfl
  have hnl := ho.len_bk
  have hEn : E ≤ n := by rw [hE, hA, hnl]; simp
  have hAE : a ≤ E := by omega
  have HO := hide ho
  have HA := hide hA
  have HE := hide hE
  have HN := hide hnl
  clear ho hA hE hnl
  by_cases hs : s = []
  · have hEa : E = a := by rw [HE.out, hs]; simp
    have HS := hide hs
    clear hs
    subst hEa
    go_enter Try.func122, Try.ntmps122
    go_wp2
    go_loopg [8] 0 (fun _ s8 wr => s8 = .int .i64 ((E : Int) + 1) ∧ wr = w)
    case atStart => exact ⟨rfl, rfl⟩
    case round =>
      obtain ⟨rfl, rfl⟩ := hrel
      go_wp2
      go_end0
      exact ⟨rfl, s, HO.out, (by rw [HS.out]; exact List.Pairwise.nil), StEq.refl _, World.grownBy.refl _ _⟩
  · obtain ⟨x0, s0, rfl⟩ : ∃ x0 s0, s = x0 :: s0 := by cases s with | nil => exact absurd rfl hs | cons x s => exact ⟨x, s, rfl⟩
    have hEs : E = a + 1 + s0.length := by rw [HE.out]; simp; omega
    have HES := hide hEs
    have hE1 : a + 1 ≤ E := by omega
    clear hs hEs
    go_enter Try.func122, Try.ntmps122
    go_wp2
    go_loopg [8] E (fun gg s8 wr => ∃ (i : Nat) (u r t : List Bk), a + 1 ≤ i ∧ i ≤ E ∧ E - i ≤ gg ∧ s8 = .int .i64 (i : Int) ∧ Hid (Ow 2 bkc 56 base wr (.slice (some ⟨b, 0, none⟩) n cap) (p ++ (u ++ r) ++ q)) ∧ Hid (i = a + u.length) ∧ Hid (x0 :: s0 = t ++ r) ∧ Hid (Srt u) ∧ Hid (StEq t u) ∧ Hid (w.grownBy wr (some b)))
    case atStart => exact ⟨a + 1, [x0], s0, [x0], Nat.le_refl _, hE1, by omega, by go_num, (hide (by simpa using HO.out)), (show Hid _ from rfl), (show Hid _ from rfl), (show Hid _ from List.pairwise_singleton _ _), (show Hid _ from StEq.refl _), World.grownBy.refl _ _⟩
    case round =>
      obtain ⟨i, u, r, t, hi1, hi2, hg, rfl, OW, IL, TR, SU, ST, GB⟩ := hrel
      obtain ⟨wo, hwo⟩ : ∃ wo, wo = wr := ⟨_, rfl⟩
      subst hwo
      by_cases hlt : i < E
      · have hltz : (i : Int) < (E : Int) := by omega
        obtain ⟨x, r', rfl⟩ : ∃ x r', r = x :: r' := by
          cases r with
          | nil => have h1 := congrArg List.length TR.out; have h2 := ST.out.len; have h3 := IL.out; have h4 := HES.out; simp at h1; omega
          | cons x r' => exact ⟨x, r', rfl⟩
        obtain ⟨x1, x2⟩ := x
        go_wp2
        go_loopg [9] i (fun gg s9 wr => ∃ (j : Nat) (u1 u2 : List Bk), a ≤ j ∧ j ≤ i ∧ j - a ≤ gg ∧ s9 = .int .i64 (j : Int) ∧ Hid (Ow 2 bkc 56 base wr (.slice (some ⟨b, 0, none⟩) n cap) (p ++ (u1 ++ (x1, x2) :: (u2 ++ r')) ++ q)) ∧ Hid (j = a + u1.length) ∧ Hid (u = u1 ++ u2) ∧ Hid (∀ y ∈ u2, x1 < y.1) ∧ Hid (w.grownBy wr (some b)))
        case atStart => exact ⟨i, u, [], by omega, Nat.le_refl _, by omega, rfl, OW, IL, (hide (by simp)), (show Hid _ from fun y hy => by simp at hy), GB⟩
        case round =>
          obtain ⟨j, u1, u2, hj1, hj2, hg2, rfl, OW2, JL, UU, UX, GB2⟩ := hrel
          obtain ⟨wq, hwq⟩ : ∃ wq, wq = wr := ⟨_, rfl⟩
          subst hwq
          rcases List.eq_nil_or_concat u1 with hu | ⟨u1', y, hu⟩
          · have hja : j = a := by rw [JL.out, hu]; rfl
            have HU := hide hu
            clear hu
            have hng : ¬ (a : Int) < (j : Int) := by omega
            clear hja
            have hfin : Srt ((x1, x2) :: u2) ∧ StEq (t ++ [(x1, x2)]) ((x1, x2) :: u2) := by
              have h1 := UU.out
              rw [HU.out, List.nil_append] at h1
              have h2 := SU.out
              have h3 := ST.out
              rw [h1] at h2 h3
              exact ⟨srt_insert (u1 := []) h2 UX.out (fun y hy => by simp at hy), (h3.append (StEq.refl _)).trans (steq_insert (u1 := []) UX.out)⟩
            have HF := hide hfin
            clear hfin
            go_wp2
            refine wp_region_grow 53 [18, 19, 20, 21, 22, 23, 24, 25, 26, 27, 28, 29, 30, 31, 32, 33, 34] (Below wq.heap.size wq) (Tst0 j a) (by kernel_rfl) (by kernel_rfl) rfl (by kernel_rfl) (by kernel_rfl) (Below.refl _ _).drew (Tst0_st j a) ⟨⟨⟨⟨⟨⟨⟨⟨⟨⟨⟨⟨⟨⟨⟨⟨⟨trivial, ?o0⟩, ?o1⟩, ?o2⟩, ?o3⟩, ?o4⟩, ?o5⟩, ?o6⟩, ?o7⟩, ?o8⟩, ?o9⟩, ?o10⟩, ?o11⟩, ?o12⟩, ?o13⟩, ?o14⟩, ?o15⟩, ?o16⟩ ?_
            case o0 =>
              intro g wr hB hk hp K hK
              have p9 : g 9 = .int .i64 (j : Int) := Option.some.inj (hk 9 (by decide) (by kernel_rfl))
              have HB := hide hB
              clear hB hk hp
              have e9 := actOf_get 53 g ([] : List Deferred) 9 (by omega) p9
              refine wpOp_free rfl rfl ?_
              go_simp
              exact hK _ _ (Below.refl _ _) HB.out (by first | rfl | simp)
            case o1 =>
              intro g wr hB hk hp K hK
              have p1 : g 1 = .int .i64 (a : Int) := Option.some.inj (hk 1 (by decide) (by kernel_rfl))
              have HB := hide hB
              clear hB hk hp
              have e1 := actOf_get 53 g ([] : List Deferred) 1 (by omega) p1
              refine wpOp_free rfl rfl ?_
              go_simp
              exact hK _ _ (Below.refl _ _) HB.out (by first | rfl | simp)
            case o2 =>
              intro g wr hB hk hp K hK
              have p18 : g 18 = .int .i64 (j : Int) := hp 0 (by kernel_rfl)
              have p19 : g 19 = .int .i64 (a : Int) := hp 1 (by kernel_rfl)
              have HB := hide hB
              clear hB hk hp
              have e18 := actOf_get 53 g ([] : List Deferred) 18 (by omega) p18
              have e19 := actOf_get 53 g ([] : List Deferred) 19 (by omega) p19
              refine wpOp_free rfl rfl ?_
              go_simp
              exact hK _ _ (Below.refl _ _) HB.out (congrArg Value.bool (decide_eq_false (by omega)))
            case o3 =>
              intro g wr hB hk hp K hK
              have p20 : g 20 = .bool false := hp 2 (by kernel_rfl)
              have HB := hide hB
              clear hB hk hp
              have e20 := actOf_get 53 g ([] : List Deferred) 20 (by omega) p20
              refine wpOp_free rfl rfl ?_
              go_simp
              exact hK _ _ (Below.refl _ _) HB.out (by first | rfl | simp)
            case o4 =>
              intro g wr hB hk hp K hK
              have pg : g 21 = .bool false := hp 3 (by kernel_rfl)
              exact wpOp_bar rfl rfl (by kernel_rfl) (by omega) pg (by decide) (hK undef wr (Below.refl _ _) hB rfl)
            case o5 =>
              intro g wr hB hk hp K hK
              have pg : g 21 = .bool false := hp 3 (by kernel_rfl)
              exact wpOp_bar rfl rfl (by kernel_rfl) (by omega) pg (by decide) (hK undef wr (Below.refl _ _) hB rfl)
            case o6 =>
              intro g wr hB hk hp K hK
              have pg : g 21 = .bool false := hp 3 (by kernel_rfl)
              exact wpOp_bar rfl rfl (by kernel_rfl) (by omega) pg (by decide) (hK undef wr (Below.refl _ _) hB rfl)
            case o7 =>
              intro g wr hB hk hp K hK
              have pg : g 21 = .bool false := hp 3 (by kernel_rfl)
              exact wpOp_bar rfl rfl (by kernel_rfl) (by omega) pg (by decide) (hK undef wr (Below.refl _ _) hB rfl)
            case o8 =>
              intro g wr hB hk hp K hK
              have pg : g 21 = .bool false := hp 3 (by kernel_rfl)
              exact wpOp_bar rfl rfl (by kernel_rfl) (by omega) pg (by decide) (hK undef wr (Below.refl _ _) hB rfl)
            case o9 =>
              intro g wr hB hk hp K hK
              have pg : g 21 = .bool false := hp 3 (by kernel_rfl)
              exact wpOp_bar rfl rfl (by kernel_rfl) (by omega) pg (by decide) (hK undef wr (Below.refl _ _) hB rfl)
            case o10 =>
              intro g wr hB hk hp K hK
              have pg : g 21 = .bool false := hp 3 (by kernel_rfl)
              exact wpOp_bar rfl rfl (by kernel_rfl) (by omega) pg (by decide) (hK undef wr (Below.refl _ _) hB rfl)
            case o11 =>
              intro g wr hB hk hp K hK
              have pg : g 21 = .bool false := hp 3 (by kernel_rfl)
              exact wpOp_bar rfl rfl (by kernel_rfl) (by omega) pg (by decide) (hK undef wr (Below.refl _ _) hB rfl)
            case o12 =>
              intro g wr hB hk hp K hK
              have pg : g 21 = .bool false := hp 3 (by kernel_rfl)
              exact wpOp_bar rfl rfl (by kernel_rfl) (by omega) pg (by decide) (hK undef wr (Below.refl _ _) hB rfl)
            case o13 =>
              intro g wr hB hk hp K hK
              have pg : g 21 = .bool false := hp 3 (by kernel_rfl)
              exact wpOp_bar rfl rfl (by kernel_rfl) (by omega) pg (by decide) (hK undef wr (Below.refl _ _) hB rfl)
            case o14 =>
              intro g wr hB hk hp K hK
              have pg : g 21 = .bool false := hp 3 (by kernel_rfl)
              exact wpOp_bar rfl rfl (by kernel_rfl) (by omega) pg (by decide) (hK undef wr (Below.refl _ _) hB rfl)
            case o15 =>
              intro g wr hB hk hp K hK
              have pg : g 21 = .bool false := hp 3 (by kernel_rfl)
              exact wpOp_bar rfl rfl (by kernel_rfl) (by omega) pg (by decide) (hK undef wr (Below.refl _ _) hB rfl)
            case o16 =>
              intro g wr hB hk hp K hK
              have p21 : g 21 = .bool false := hp 3 (by kernel_rfl)
              have p33 : g 33 = undef := hp 15 (by kernel_rfl)
              have HB := hide hB
              clear hB hk hp
              have e21 := actOf_get 53 g ([] : List Deferred) 21 (by omega) p21
              have e33 := actOf_get 53 g ([] : List Deferred) 33 (by omega) p33
              refine wpOp_free rfl rfl ?_
              go_simp
              exact hK _ _ (Below.refl _ _) HB.out (by first | rfl | simp)
            intro g wr hB hP
            have hp2 : g 34 = .bool false := hP 16 (by decide)
            have HB := hide hB
            clear hP hB
            simp only [putAll, Act.put, List.setIfInBounds_toArray, List.set_cons_zero, List.set_cons_succ, hp2]
            clear hp2
            go_wp2
            go_roundg (E - (i + 1))
            case measure => omega
            case rel => exact ⟨i + 1, (x1, x2) :: u2, r', t ++ [(x1, x2)], by omega, by omega, by omega, by go_num, (hide (by have := OW2.out.below HB.out; rw [HU.out] at this; simpa using this)), (hide (by have h1 := IL.out; have h2 := UU.out; rw [HU.out] at h2; rw [h1, h2]; simp; omega)), (hide (by rw [TR.out]; simp)), HF.out.1, HF.out.2, grownBy_below GB2.out HB.out⟩
          · obtain ⟨y1, y2⟩ := y
            rw [List.concat_eq_append] at hu
            obtain ⟨m, hm⟩ : ∃ m, m = a + u1'.length := ⟨_, rfl⟩
            have hjm : j = m + 1 := by rw [JL.out, hu, hm]; simp; omega
            have hma : a ≤ m := by omega
            have HU := hide hu
            have HM := hide hm
            have hlt2 : (j : Int) < (n : Int) := by omega
            have hlt3 : (m : Int) < (n : Int) := by omega
            have haj : (a : Int) < (j : Int) := by omega
            have hwr := hide (show IntKind.i64.wrap ((j : Int) - 1) = (m : Int) by rw [IntWalk.i64_in _ (by omega)]; omega)
            have hx := at_mid p u1 q (x1, x2) a j HA.out JL.out (u2 ++ r')
            have hy := at_mid p u1' q (y1, y2) a m HA.out HM.out ((x1, x2) :: (u2 ++ r'))
            have hlist : u1 ++ (x1, x2) :: (u2 ++ r') = u1' ++ (y1, y2) :: (x1, x2) :: (u2 ++ r') := by rw [HU.out]; simp
            rw [← hlist] at hy
            have cx1 := hide (OW2.out.cells_at hx).1
            have cx2 := hide (OW2.out.cells_at hx).2
            have cy1 := hide (OW2.out.cells_at hy).1
            have cy2 := hide (OW2.out.cells_at hy).2
            have HJM := hide hjm
            have hmn : m < (p ++ (u1 ++ (x1, x2) :: (u2 ++ r')) ++ q).length := (List.getElem?_eq_some_iff.1 hy).1
            have hjn : j < (p ++ (u1 ++ (x1, x2) :: (u2 ++ r')) ++ q).length := (List.getElem?_eq_some_iff.1 hx).1
            have HMN := hide hmn
            have HJN := hide hjn
            have HLI := hide hlist
            obtain ⟨c, hc⟩ : ∃ c : Bool, decide (cmpI x1 y1 < 0) = c := ⟨_, rfl⟩
            have hcc := hide hc
            clear hm hu hx hy hlist hjm hmn hjn hc
            go_wp2
            refine wp_region_grow 53 [18, 19, 20, 21, 22, 23, 24, 25, 26, 27, 28, 29, 30, 31, 32, 33, 34] (Below wq.heap.size wq) (Tst1 b n cap j m a x1 x2 y1 y2 c) (by kernel_rfl) (by kernel_rfl) rfl (by kernel_rfl) (by kernel_rfl) (Below.refl _ _).drew (Tst1_st b n cap j m a x1 x2 y1 y2 c) ⟨⟨⟨⟨⟨⟨⟨⟨⟨⟨⟨⟨⟨⟨⟨⟨⟨trivial, ?o0⟩, ?o1⟩, ?o2⟩, ?o3⟩, ?o4⟩, ?o5⟩, ?o6⟩, ?o7⟩, ?o8⟩, ?o9⟩, ?o10⟩, ?o11⟩, ?o12⟩, ?o13⟩, ?o14⟩, ?o15⟩, ?o16⟩ ?_
            case o0 =>
              intro g wr hB hk hp K hK
              have p9 : g 9 = .int .i64 (j : Int) := Option.some.inj (hk 9 (by decide) (by kernel_rfl))
              have HB := hide hB
              clear hB hk hp
              have e9 := actOf_get 53 g ([] : List Deferred) 9 (by omega) p9
              refine wpOp_free rfl rfl ?_
              go_simp
              exact hK _ _ (Below.refl _ _) HB.out (by first | rfl | simp)
            case o1 =>
              intro g wr hB hk hp K hK
              have p1 : g 1 = .int .i64 (a : Int) := Option.some.inj (hk 1 (by decide) (by kernel_rfl))
              have HB := hide hB
              clear hB hk hp
              have e1 := actOf_get 53 g ([] : List Deferred) 1 (by omega) p1
              refine wpOp_free rfl rfl ?_
              go_simp
              exact hK _ _ (Below.refl _ _) HB.out (by first | rfl | simp)
            case o2 =>
              intro g wr hB hk hp K hK
              have p18 : g 18 = .int .i64 (j : Int) := hp 0 (by kernel_rfl)
              have p19 : g 19 = .int .i64 (a : Int) := hp 1 (by kernel_rfl)
              have HB := hide hB
              clear hB hk hp
              have e18 := actOf_get 53 g ([] : List Deferred) 18 (by omega) p18
              have e19 := actOf_get 53 g ([] : List Deferred) 19 (by omega) p19
              refine wpOp_free rfl rfl ?_
              go_simp
              exact hK _ _ (Below.refl _ _) HB.out (by first | rfl | exact congrArg Value.bool (decide_eq_true (by omega)))
            case o3 =>
              intro g wr hB hk hp K hK
              have p20 : g 20 = .bool true := hp 2 (by kernel_rfl)
              have HB := hide hB
              clear hB hk hp
              have e20 := actOf_get 53 g ([] : List Deferred) 20 (by omega) p20
              refine wpOp_free rfl rfl ?_
              go_simp
              exact hK _ _ (Below.refl _ _) HB.out (by first | rfl | simp)
            case o4 =>
              intro g wr hB hk hp K hK
              have p3 : g 3 = .func (.func 66) #[] #[] := Option.some.inj (hk 3 (by decide) (by kernel_rfl))
              have pg : g 21 = .bool true := hp 3 (by kernel_rfl)
              have HB := hide hB
              clear hB hk hp
              have e3 := actOf_get 53 g ([] : List Deferred) 3 (by omega) p3
              refine wpOp_let rfl rfl (by kernel_rfl) (by omega) pg ?_
              clear pg
              go_simp
              exact hK _ _ (Below.refl _ _) HB.out (by first | rfl | simp)
            case o5 =>
              intro g wr hB hk hp K hK
              have p0 : g 0 = .slice (some ⟨b, 0, none⟩) n cap := Option.some.inj (hk 0 (by decide) (by kernel_rfl))
              have pg : g 21 = .bool true := hp 3 (by kernel_rfl)
              have HB := hide hB
              clear hB hk hp
              have e0 := actOf_get 53 g ([] : List Deferred) 0 (by omega) p0
              refine wpOp_let rfl rfl (by kernel_rfl) (by omega) pg ?_
              clear pg
              go_simp
              exact hK _ _ (Below.refl _ _) HB.out (by first | rfl | simp)
            case o6 =>
              intro g wr hB hk hp K hK
              have p9 : g 9 = .int .i64 (j : Int) := Option.some.inj (hk 9 (by decide) (by kernel_rfl))
              have pg : g 21 = .bool true := hp 3 (by kernel_rfl)
              have HB := hide hB
              clear hB hk hp
              have e9 := actOf_get 53 g ([] : List Deferred) 9 (by omega) p9
              refine wpOp_let rfl rfl (by kernel_rfl) (by omega) pg ?_
              clear pg
              go_simp
              exact hK _ _ (Below.refl _ _) HB.out (by first | rfl | simp)
            case o7 =>
              intro g wr hB hk hp K hK
              have p23 : g 23 = .slice (some ⟨b, 0, none⟩) n cap := hp 5 (by kernel_rfl)
              have p24 : g 24 = .int .i64 (j : Int) := hp 6 (by kernel_rfl)
              have pg : g 21 = .bool true := hp 3 (by kernel_rfl)
              have HB := hide hB
              clear hB hk hp
              have e23 := actOf_get 53 g ([] : List Deferred) 23 (by omega) p23
              have e24 := actOf_get 53 g ([] : List Deferred) 24 (by omega) p24
              refine wpOp_let rfl rfl (by kernel_rfl) (by omega) pg ?_
              clear pg
              go_simp
              exact hK _ _ (Below.refl _ _) HB.out (by first | rfl | simp)
            case o8 =>
              intro g wr hB hk hp K hK
              have p25 : g 25 = .pointer (some ⟨b, j * 2, none⟩) := hp 7 (by kernel_rfl)
              have pg : g 21 = .bool true := hp 3 (by kernel_rfl)
              have HB := hide hB
              clear hB hk hp
              have lc0 := cell_later HB.out cx1.out
              have lc1 := cell_later HB.out cx2.out
              have e25 := actOf_get 53 g ([] : List Deferred) 25 (by omega) p25
              refine wpOp_let rfl rfl (by kernel_rfl) (by omega) pg ?_
              clear pg
              go_simp
              exact hK _ _ (Below.refl _ _) HB.out (by first | rfl | simp)
            case o9 =>
              intro g wr hB hk hp K hK
              have p0 : g 0 = .slice (some ⟨b, 0, none⟩) n cap := Option.some.inj (hk 0 (by decide) (by kernel_rfl))
              have pg : g 21 = .bool true := hp 3 (by kernel_rfl)
              have HB := hide hB
              clear hB hk hp
              have e0 := actOf_get 53 g ([] : List Deferred) 0 (by omega) p0
              refine wpOp_let rfl rfl (by kernel_rfl) (by omega) pg ?_
              clear pg
              go_simp
              exact hK _ _ (Below.refl _ _) HB.out (by first | rfl | simp)
            case o10 =>
              intro g wr hB hk hp K hK
              have p9 : g 9 = .int .i64 (j : Int) := Option.some.inj (hk 9 (by decide) (by kernel_rfl))
              have pg : g 21 = .bool true := hp 3 (by kernel_rfl)
              have HB := hide hB
              clear hB hk hp
              have e9 := actOf_get 53 g ([] : List Deferred) 9 (by omega) p9
              refine wpOp_let rfl rfl (by kernel_rfl) (by omega) pg ?_
              clear pg
              go_simp
              exact hK _ _ (Below.refl _ _) HB.out (by first | rfl | simp)
            case o11 =>
              intro g wr hB hk hp K hK
              have p28 : g 28 = .int .i64 (j : Int) := hp 10 (by kernel_rfl)
              have pg : g 21 = .bool true := hp 3 (by kernel_rfl)
              have HB := hide hB
              clear hB hk hp
              have e28 := actOf_get 53 g ([] : List Deferred) 28 (by omega) p28
              refine wpOp_let rfl rfl (by kernel_rfl) (by omega) pg ?_
              clear pg
              go_simp
              exact hK _ _ (Below.refl _ _) HB.out (congrArg (Value.int .i64) hwr.out)
            case o12 =>
              intro g wr hB hk hp K hK
              have p27 : g 27 = .slice (some ⟨b, 0, none⟩) n cap := hp 9 (by kernel_rfl)
              have p29 : g 29 = .int .i64 (m : Int) := hp 11 (by kernel_rfl)
              have pg : g 21 = .bool true := hp 3 (by kernel_rfl)
              have HB := hide hB
              clear hB hk hp
              have e27 := actOf_get 53 g ([] : List Deferred) 27 (by omega) p27
              have e29 := actOf_get 53 g ([] : List Deferred) 29 (by omega) p29
              refine wpOp_let rfl rfl (by kernel_rfl) (by omega) pg ?_
              clear pg
              go_simp
              exact hK _ _ (Below.refl _ _) HB.out (by first | rfl | simp)
            case o13 =>
              intro g wr hB hk hp K hK
              have p30 : g 30 = .pointer (some ⟨b, m * 2, none⟩) := hp 12 (by kernel_rfl)
              have pg : g 21 = .bool true := hp 3 (by kernel_rfl)
              have HB := hide hB
              clear hB hk hp
              have lc0 := cell_later HB.out cy1.out
              have lc1 := cell_later HB.out cy2.out
              have e30 := actOf_get 53 g ([] : List Deferred) 30 (by omega) p30
              refine wpOp_let rfl rfl (by kernel_rfl) (by omega) pg ?_
              clear pg
              go_simp
              exact hK _ _ (Below.refl _ _) HB.out (by first | rfl | simp)
            case o14 =>
              intro g wr hB hk hp K hK
              have p22 : g 22 = .func (.func 66) #[] #[] := hp 4 (by kernel_rfl)
              have p26 : g 26 = .agg #[.int .i64 x1, .int .i64 x2] := hp 8 (by kernel_rfl)
              have p31 : g 31 = .agg #[.int .i64 y1, .int .i64 y2] := hp 13 (by kernel_rfl)
              have pg : g 21 = .bool true := hp 3 (by kernel_rfl)
              have HB := hide hB
              clear hB hk hp
              have e22 := actOf_get 53 g ([] : List Deferred) 22 (by omega) p22
              have e26 := actOf_get 53 g ([] : List Deferred) 26 (by omega) p26
              have e31 := actOf_get 53 g ([] : List Deferred) 31 (by omega) p31
              refine wpOp_let rfl rfl (by kernel_rfl) (by omega) pg ?_
              clear pg
              go_simp
              refine (cmpId_calls (x1, x2) (y1, y2) _).mono ?_
              rintro e w' ⟨rfl, hb⟩
              exact hK _ _ hb (below_then HB.out HB.out.size hb) rfl
            case o15 =>
              intro g wr hB hk hp K hK
              have p32 : g 32 = .int .i64 (cmpI x1 y1) := hp 14 (by kernel_rfl)
              have pg : g 21 = .bool true := hp 3 (by kernel_rfl)
              have HB := hide hB
              clear hB hk hp
              have e32 := actOf_get 53 g ([] : List Deferred) 32 (by omega) p32
              refine wpOp_let rfl rfl (by kernel_rfl) (by omega) pg ?_
              clear pg
              go_simp
              exact hK _ _ (Below.refl _ _) HB.out (congrArg Value.bool hcc.out)
            case o16 =>
              intro g wr hB hk hp K hK
              have p21 : g 21 = .bool true := hp 3 (by kernel_rfl)
              have p33 : g 33 = .bool c := hp 15 (by kernel_rfl)
              have HB := hide hB
              clear hB hk hp
              have e21 := actOf_get 53 g ([] : List Deferred) 21 (by omega) p21
              have e33 := actOf_get 53 g ([] : List Deferred) 33 (by omega) p33
              refine wpOp_free rfl rfl ?_
              go_simp
              exact hK _ _ (Below.refl _ _) HB.out (by first | rfl | simp)
            intro g wr hB hP
            have hp2 : g 34 = .bool c := hP 16 (by decide)
            have HB := hide hB
            clear hP hB
            simp only [putAll, Act.put, List.setIfInBounds_toArray, List.set_cons_zero, List.set_cons_succ, hp2]
            clear hp2
            cases c with
            | false =>
              have hfin : Srt (u1 ++ (x1, x2) :: u2) ∧ StEq (t ++ [(x1, x2)]) (u1 ++ (x1, x2) :: u2) := by
                have hxy : y1 ≤ x1 := cmpI_nneg (of_decide_eq_false hcc.out)
                have h2 := SU.out
                have h3 := ST.out
                rw [UU.out] at h2 h3
                refine ⟨srt_insert h2 UX.out (fun z hz => ?_), (h3.append (StEq.refl _)).trans (steq_insert UX.out)⟩
                rw [HU.out] at hz h2
                rcases List.mem_append.1 hz with hz | hz
                · have h4 := (List.pairwise_append.1 (List.pairwise_append.1 h2).1).2.2 z hz (y1, y2) (by simp)
                  show z.1 ≤ x1
                  have : z.1 ≤ y1 := h4
                  omega
                · simp at hz; subst hz; exact hxy
              have HF := hide hfin
              clear hfin
              go_wp2
              go_roundg (E - (i + 1))
              case measure => omega
              case rel => exact ⟨i + 1, u1 ++ (x1, x2) :: u2, r', t ++ [(x1, x2)], by omega, by omega, by omega, by go_num, (hide (by simpa using OW2.out.below HB.out)), (hide (by have h1 := IL.out; rw [UU.out] at h1; rw [h1]; simp; omega)), (hide (by rw [TR.out]; simp)), HF.out.1, HF.out.2, grownBy_below GB2.out HB.out⟩
            | true =>
              have hxy := hide (show x1 < y1 from cmpI_neg (of_decide_eq_true hcc.out))
              have OW3 := OW2.out.below HB.out
              have GB3 := hide (grownBy_below GB2.out HB.out)
              obtain ⟨W0, hW0⟩ : ∃ W0, W0 = wr.drew := ⟨_, rfl⟩
              have OWa : Ow 2 bkc 56 base W0 (.slice (some ⟨b, 0, none⟩) n cap) (p ++ (u1 ++ (x1, x2) :: (u2 ++ r')) ++ q) := by rw [hW0]; exact OW3.below (Below.refl _ _).drew
              have ga : wr.grownBy W0 (some b) := by rw [hW0]; exact grownBy_of_below (Below.refl _ _).drew _
              have hx := at_mid p u1 q (x1, x2) a j HA.out JL.out (u2 ++ r')
              have hy := at_mid p u1' q (y1, y2) a m HA.out HM.out ((x1, x2) :: (u2 ++ r'))
              rw [← HLI.out] at hy
              have dx1 := hide (OWa.cells_at hx).1
              have dx2 := hide (OWa.cells_at hx).2
              have dy1 := hide (OWa.cells_at hy).1
              have dy2 := hide (OWa.cells_at hy).2
              have fx1 := hide (OWa.frz (j * 2))
              have fx2 := hide (OWa.frz (j * 2 + 1))
              obtain ⟨OWb, gb⟩ := OWa.set_bk j HJN.out y1 y2
              obtain ⟨W1, hW1⟩ : ∃ W1, W1 = (W0.setCell ⟨b, j * 2, none⟩ (.int .i64 y1)).setCell ⟨b, j * 2 + 1, none⟩ (.int .i64 y2) := ⟨_, rfl⟩
              rw [← hW1] at OWb gb
              have hym : ((p ++ (u1 ++ (x1, x2) :: (u2 ++ r')) ++ q).set j (y1, y2))[m]? = some (y1, y2) := by rw [List.getElem?_set, if_neg (by have := HJM.out; omega)]; exact hy
              have dm1 := hide (OWb.cells_at hym).1
              have dm2 := hide (OWb.cells_at hym).2
              have fm1 := hide (OWb.frz (m * 2))
              have fm2 := hide (OWb.frz (m * 2 + 1))
              obtain ⟨OWc, gc⟩ := OWb.set_bk m (by rw [List.length_set]; exact HMN.out) x1 x2
              obtain ⟨W2, hW2⟩ : ∃ W2, W2 = (W1.setCell ⟨b, m * 2, none⟩ (.int .i64 x1)).setCell ⟨b, m * 2 + 1, none⟩ (.int .i64 x2) := ⟨_, rfl⟩
              rw [← hW2] at OWc gc
              have hfin : Ow 2 bkc 56 base W2 (.slice (some ⟨b, 0, none⟩) n cap) (p ++ (u1' ++ (x1, x2) :: ((y1, y2) :: u2 ++ r')) ++ q) ∧ w.grownBy W2 (some b) := by
                refine ⟨?_, grownBy_step (grownBy_step (grownBy_step GB3.out ga) gb) gc⟩
                have e : ((p ++ (u1 ++ (x1, x2) :: (u2 ++ r')) ++ q).set j (y1, y2)).set m (x1, x2) = p ++ (u1' ++ (x1, x2) :: ((y1, y2) :: u2 ++ r')) ++ q := by
                  have h5 := swap_eq (p ++ u1') (u2 ++ r' ++ q) (x1, x2) (y1, y2)
                  have h6 : (p ++ u1').length = m := by rw [List.length_append, HM.out, HA.out]
                  rw [h6, ← HJM.out] at h5
                  rw [HLI.out]
                  simpa using h5
                rw [← e]; exact OWc
              have HW0 := hide hW0
              have HW1 := hide hW1
              have HW2 := hide hW2
              have HF := hide hfin
              clear hx hy hym OWa OWb OWc OW3 ga gb gc hW0 hW1 hW2 hfin
              go_wp2
              refine wp_region_fix 53 [37, 38, 39, 40, 41, 42, 43, 44, 45, 46, 47, 48, 49, 50, 51, 52] [1, 1, 1, 1, 2, 1, 1, 2, 3, 4, 1, 1, 2, 3, 5, 6, 7, 8] [15, 17] (Sw6V b n cap j m x1 x2 y1 y2) (Sw6W W0 W1 W2) (by kernel_rfl) (by kernel_rfl) (by kernel_rfl) (by kernel_rfl) rfl (by kernel_rfl) (by kernel_rfl) HW0.out ⟨⟨⟨⟨⟨⟨⟨⟨⟨⟨⟨⟨⟨⟨⟨⟨⟨⟨trivial, ?o0⟩, ?o1⟩, ?o2⟩, ?o3⟩, ?o4⟩, ?o5⟩, ?o6⟩, ?o7⟩, ?o8⟩, ?o9⟩, ?o10⟩, ?o11⟩, ?o12⟩, ?o13⟩, ?o14⟩, ?o15⟩, ?o16⟩, ?o17⟩ ?_
              case o0 =>
                intro g hk hp c hc hm K hK
                match c, hc, hm, hK with
                | 0, _, _, hK =>
                  have p0 : g 0 = .slice (some ⟨b, 0, none⟩) n cap := Option.some.inj (hk 0 (by decide) (by kernel_rfl))
                  have e0 := actOf_get 53 g ([] : List Deferred) 0 (by omega) p0
                  clear hk hp
                  refine wpOp_free rfl rfl ?_
                  show Oper.wp _ _ _ W0 _ _
                  replace hK := hide hK
                  go_simp
                  exact hK.out
                | 1, _, hm, _ => exact (Bool.false_ne_true ((show false = mayAt _ _ _ _ by kernel_rfl).trans hm)).elim
                | 2, _, hm, _ => exact (Bool.false_ne_true ((show false = mayAt _ _ _ _ by kernel_rfl).trans hm)).elim
                | c + 3, hc, _, _ => exact absurd hc (by simp)
              case o1 =>
                intro g hk hp c hc hm K hK
                match c, hc, hm, hK with
                | 0, _, _, hK =>
                  have p9 : g 9 = .int .i64 (j : Int) := Option.some.inj (hk 9 (by decide) (by kernel_rfl))
                  have e9 := actOf_get 53 g ([] : List Deferred) 9 (by omega) p9
                  clear hk hp
                  refine wpOp_free rfl rfl ?_
                  show Oper.wp _ _ _ W0 _ _
                  replace hK := hide hK
                  go_simp
                  exact hK.out
                | 1, _, hm, _ => exact (Bool.false_ne_true ((show false = mayAt _ _ _ _ by kernel_rfl).trans hm)).elim
                | 2, _, hm, _ => exact (Bool.false_ne_true ((show false = mayAt _ _ _ _ by kernel_rfl).trans hm)).elim
                | c + 3, hc, _, _ => exact absurd hc (by simp)
              case o2 =>
                intro g hk hp c hc hm K hK
                match c, hc, hm, hK with
                | 0, _, _, hK =>
                  have p0 : g 0 = .slice (some ⟨b, 0, none⟩) n cap := Option.some.inj (hk 0 (by decide) (by kernel_rfl))
                  have e0 := actOf_get 53 g ([] : List Deferred) 0 (by omega) p0
                  clear hk hp
                  refine wpOp_free rfl rfl ?_
                  show Oper.wp _ _ _ W0 _ _
                  replace hK := hide hK
                  go_simp
                  exact hK.out
                | 1, _, _, hK =>
                  have p0 : g 0 = .slice (some ⟨b, 0, none⟩) n cap := Option.some.inj (hk 0 (by decide) (by kernel_rfl))
                  have e0 := actOf_get 53 g ([] : List Deferred) 0 (by omega) p0
                  clear hk hp
                  refine wpOp_free rfl rfl ?_
                  show Oper.wp _ _ _ W1 _ _
                  replace hK := hide hK
                  go_simp
                  exact hK.out
                | 2, _, hm, _ => exact (Bool.false_ne_true ((show false = mayAt _ _ _ _ by kernel_rfl).trans hm)).elim
                | c + 3, hc, _, _ => exact absurd hc (by simp)
              case o3 =>
                intro g hk hp c hc hm K hK
                match c, hc, hm, hK with
                | 0, _, _, hK =>
                  have p9 : g 9 = .int .i64 (j : Int) := Option.some.inj (hk 9 (by decide) (by kernel_rfl))
                  have e9 := actOf_get 53 g ([] : List Deferred) 9 (by omega) p9
                  clear hk hp
                  refine wpOp_free rfl rfl ?_
                  show Oper.wp _ _ _ W0 _ _
                  replace hK := hide hK
                  go_simp
                  exact hK.out
                | 1, _, _, hK =>
                  have p9 : g 9 = .int .i64 (j : Int) := Option.some.inj (hk 9 (by decide) (by kernel_rfl))
                  have e9 := actOf_get 53 g ([] : List Deferred) 9 (by omega) p9
                  clear hk hp
                  refine wpOp_free rfl rfl ?_
                  show Oper.wp _ _ _ W1 _ _
                  replace hK := hide hK
                  go_simp
                  exact hK.out
                | 2, _, hm, _ => exact (Bool.false_ne_true ((show false = mayAt _ _ _ _ by kernel_rfl).trans hm)).elim
                | c + 3, hc, _, _ => exact absurd hc (by simp)
              case o4 =>
                intro g hk hp c hc hm K hK
                match c, hc, hm, hK with
                | 0, _, _, hK =>
                  have p40 : g 40 = .int .i64 (j : Int) := hp 3 (by kernel_rfl) 40 (by kernel_rfl)
                  have e40 := actOf_get 53 g ([] : List Deferred) 40 (by omega) p40
                  clear hk hp
                  refine wpOp_free rfl rfl ?_
                  show Oper.wp _ _ _ W0 _ _
                  replace hK := hide hK
                  go_simp
                  rw [hwr.out]; exact hK.out
                | 1, _, _, hK =>
                  have p40 : g 40 = .int .i64 (j : Int) := hp 3 (by kernel_rfl) 40 (by kernel_rfl)
                  have e40 := actOf_get 53 g ([] : List Deferred) 40 (by omega) p40
                  clear hk hp
                  refine wpOp_free rfl rfl ?_
                  show Oper.wp _ _ _ W1 _ _
                  replace hK := hide hK
                  go_simp
                  rw [hwr.out]; exact hK.out
                | 2, _, hm, _ => exact (Bool.false_ne_true ((show false = mayAt _ _ _ _ by kernel_rfl).trans hm)).elim
                | c + 3, hc, _, _ => exact absurd hc (by simp)
              case o5 =>
                intro g hk hp c hc hm K hK
                match c, hc, hm, hK with
                | 0, _, _, hK =>
                  have p0 : g 0 = .slice (some ⟨b, 0, none⟩) n cap := Option.some.inj (hk 0 (by decide) (by kernel_rfl))
                  have e0 := actOf_get 53 g ([] : List Deferred) 0 (by omega) p0
                  clear hk hp
                  refine wpOp_free rfl rfl ?_
                  show Oper.wp _ _ _ W0 _ _
                  replace hK := hide hK
                  go_simp
                  exact hK.out
                | 1, _, hm, _ => exact (Bool.false_ne_true ((show false = mayAt _ _ _ _ by kernel_rfl).trans hm)).elim
                | 2, _, hm, _ => exact (Bool.false_ne_true ((show false = mayAt _ _ _ _ by kernel_rfl).trans hm)).elim
                | c + 3, hc, _, _ => exact absurd hc (by simp)
              case o6 =>
                intro g hk hp c hc hm K hK
                match c, hc, hm, hK with
                | 0, _, _, hK =>
                  have p9 : g 9 = .int .i64 (j : Int) := Option.some.inj (hk 9 (by decide) (by kernel_rfl))
                  have e9 := actOf_get 53 g ([] : List Deferred) 9 (by omega) p9
                  clear hk hp
                  refine wpOp_free rfl rfl ?_
                  show Oper.wp _ _ _ W0 _ _
                  replace hK := hide hK
                  go_simp
                  exact hK.out
                | 1, _, hm, _ => exact (Bool.false_ne_true ((show false = mayAt _ _ _ _ by kernel_rfl).trans hm)).elim
                | 2, _, hm, _ => exact (Bool.false_ne_true ((show false = mayAt _ _ _ _ by kernel_rfl).trans hm)).elim
                | c + 3, hc, _, _ => exact absurd hc (by simp)
              case o7 =>
                intro g hk hp c hc hm K hK
                match c, hc, hm, hK with
                | 0, _, _, hK =>
                  have p43 : g 43 = .int .i64 (j : Int) := hp 6 (by kernel_rfl) 43 (by kernel_rfl)
                  have e43 := actOf_get 53 g ([] : List Deferred) 43 (by omega) p43
                  clear hk hp
                  refine wpOp_free rfl rfl ?_
                  show Oper.wp _ _ _ W0 _ _
                  replace hK := hide hK
                  go_simp
                  rw [hwr.out]; exact hK.out
                | 1, _, hm, _ => exact (Bool.false_ne_true ((show false = mayAt _ _ _ _ by kernel_rfl).trans hm)).elim
                | 2, _, hm, _ => exact (Bool.false_ne_true ((show false = mayAt _ _ _ _ by kernel_rfl).trans hm)).elim
                | c + 3, hc, _, _ => exact absurd hc (by simp)
              case o8 =>
                intro g hk hp c hc hm K hK
                match c, hc, hm, hK with
                | 0, _, _, hK =>
                  have p42 : g 42 = .slice (some ⟨b, 0, none⟩) n cap := hp 5 (by kernel_rfl) 42 (by kernel_rfl)
                  have e42 := actOf_get 53 g ([] : List Deferred) 42 (by omega) p42
                  have p44 : g 44 = .int .i64 (m : Int) := hp 7 (by kernel_rfl) 44 (by kernel_rfl)
                  have e44 := actOf_get 53 g ([] : List Deferred) 44 (by omega) p44
                  clear hk hp
                  refine wpOp_free rfl rfl ?_
                  show Oper.wp _ _ _ W0 _ _
                  replace hK := hide hK
                  go_simp
                  exact hK.out
                | 1, _, hm, _ => exact (Bool.false_ne_true ((show false = mayAt _ _ _ _ by kernel_rfl).trans hm)).elim
                | 2, _, hm, _ => exact (Bool.false_ne_true ((show false = mayAt _ _ _ _ by kernel_rfl).trans hm)).elim
                | c + 3, hc, _, _ => exact absurd hc (by simp)
              case o9 =>
                intro g hk hp c hc hm K hK
                match c, hc, hm, hK with
                | 0, _, _, hK =>
                  have p45 : g 45 = .pointer (some ⟨b, m * 2, none⟩) := hp 8 (by kernel_rfl) 45 (by kernel_rfl)
                  have e45 := actOf_get 53 g ([] : List Deferred) 45 (by omega) p45
                  clear hk hp
                  have lc0 := dy1.out
                  have lc1 := dy2.out
                  refine wpOp_free rfl rfl ?_
                  show Oper.wp _ _ _ W0 _ _
                  replace hK := hide hK
                  go_simp
                  exact hK.out
                | 1, _, hm, _ => exact (Bool.false_ne_true ((show false = mayAt _ _ _ _ by kernel_rfl).trans hm)).elim
                | 2, _, hm, _ => exact (Bool.false_ne_true ((show false = mayAt _ _ _ _ by kernel_rfl).trans hm)).elim
                | c + 3, hc, _, _ => exact absurd hc (by simp)
              case o10 =>
                intro g hk hp c hc hm K hK
                match c, hc, hm, hK with
                | 0, _, _, hK =>
                  have p0 : g 0 = .slice (some ⟨b, 0, none⟩) n cap := Option.some.inj (hk 0 (by decide) (by kernel_rfl))
                  have e0 := actOf_get 53 g ([] : List Deferred) 0 (by omega) p0
                  clear hk hp
                  refine wpOp_free rfl rfl ?_
                  show Oper.wp _ _ _ W0 _ _
                  replace hK := hide hK
                  go_simp
                  exact hK.out
                | 1, _, _, hK =>
                  have p0 : g 0 = .slice (some ⟨b, 0, none⟩) n cap := Option.some.inj (hk 0 (by decide) (by kernel_rfl))
                  have e0 := actOf_get 53 g ([] : List Deferred) 0 (by omega) p0
                  clear hk hp
                  refine wpOp_free rfl rfl ?_
                  show Oper.wp _ _ _ W1 _ _
                  replace hK := hide hK
                  go_simp
                  exact hK.out
                | 2, _, hm, _ => exact (Bool.false_ne_true ((show false = mayAt _ _ _ _ by kernel_rfl).trans hm)).elim
                | c + 3, hc, _, _ => exact absurd hc (by simp)
              case o11 =>
                intro g hk hp c hc hm K hK
                match c, hc, hm, hK with
                | 0, _, _, hK =>
                  have p9 : g 9 = .int .i64 (j : Int) := Option.some.inj (hk 9 (by decide) (by kernel_rfl))
                  have e9 := actOf_get 53 g ([] : List Deferred) 9 (by omega) p9
                  clear hk hp
                  refine wpOp_free rfl rfl ?_
                  show Oper.wp _ _ _ W0 _ _
                  replace hK := hide hK
                  go_simp
                  exact hK.out
                | 1, _, _, hK =>
                  have p9 : g 9 = .int .i64 (j : Int) := Option.some.inj (hk 9 (by decide) (by kernel_rfl))
                  have e9 := actOf_get 53 g ([] : List Deferred) 9 (by omega) p9
                  clear hk hp
                  refine wpOp_free rfl rfl ?_
                  show Oper.wp _ _ _ W1 _ _
                  replace hK := hide hK
                  go_simp
                  exact hK.out
                | 2, _, hm, _ => exact (Bool.false_ne_true ((show false = mayAt _ _ _ _ by kernel_rfl).trans hm)).elim
                | c + 3, hc, _, _ => exact absurd hc (by simp)
              case o12 =>
                intro g hk hp c hc hm K hK
                match c, hc, hm, hK with
                | 0, _, _, hK =>
                  have p47 : g 47 = .slice (some ⟨b, 0, none⟩) n cap := hp 10 (by kernel_rfl) 47 (by kernel_rfl)
                  have e47 := actOf_get 53 g ([] : List Deferred) 47 (by omega) p47
                  have p48 : g 48 = .int .i64 (j : Int) := hp 11 (by kernel_rfl) 48 (by kernel_rfl)
                  have e48 := actOf_get 53 g ([] : List Deferred) 48 (by omega) p48
                  clear hk hp
                  refine wpOp_free rfl rfl ?_
                  show Oper.wp _ _ _ W0 _ _
                  replace hK := hide hK
                  go_simp
                  exact hK.out
                | 1, _, _, hK =>
                  have p47 : g 47 = .slice (some ⟨b, 0, none⟩) n cap := hp 10 (by kernel_rfl) 47 (by kernel_rfl)
                  have e47 := actOf_get 53 g ([] : List Deferred) 47 (by omega) p47
                  have p48 : g 48 = .int .i64 (j : Int) := hp 11 (by kernel_rfl) 48 (by kernel_rfl)
                  have e48 := actOf_get 53 g ([] : List Deferred) 48 (by omega) p48
                  clear hk hp
                  refine wpOp_free rfl rfl ?_
                  show Oper.wp _ _ _ W1 _ _
                  replace hK := hide hK
                  go_simp
                  exact hK.out
                | 2, _, hm, _ => exact (Bool.false_ne_true ((show false = mayAt _ _ _ _ by kernel_rfl).trans hm)).elim
                | c + 3, hc, _, _ => exact absurd hc (by simp)
              case o13 =>
                intro g hk hp c hc hm K hK
                match c, hc, hm, hK with
                | 0, _, _, hK =>
                  have p49 : g 49 = .pointer (some ⟨b, j * 2, none⟩) := hp 12 (by kernel_rfl) 49 (by kernel_rfl)
                  have e49 := actOf_get 53 g ([] : List Deferred) 49 (by omega) p49
                  clear hk hp
                  have lc0 := dx1.out
                  have lc1 := dx2.out
                  refine wpOp_free rfl rfl ?_
                  show Oper.wp _ _ _ W0 _ _
                  replace hK := hide hK
                  go_simp
                  exact hK.out
                | 1, _, hm, _ => exact (Bool.false_ne_true ((show false = mayAt _ _ _ _ by kernel_rfl).trans hm)).elim
                | 2, _, hm, _ => exact (Bool.false_ne_true ((show false = mayAt _ _ _ _ by kernel_rfl).trans hm)).elim
                | c + 3, hc, _, _ => exact absurd hc (by simp)
              case o14 =>
                intro g hk hp c hc hm K hK
                match c, hc, hm, hK with
                | 0, _, _, hK =>
                  have p37 : g 37 = .slice (some ⟨b, 0, none⟩) n cap := hp 0 (by kernel_rfl) 37 (by kernel_rfl)
                  have e37 := actOf_get 53 g ([] : List Deferred) 37 (by omega) p37
                  have p38 : g 38 = .int .i64 (j : Int) := hp 1 (by kernel_rfl) 38 (by kernel_rfl)
                  have e38 := actOf_get 53 g ([] : List Deferred) 38 (by omega) p38
                  clear hk hp
                  refine wpOp_free rfl rfl ?_
                  show Oper.wp _ _ _ W0 _ _
                  replace hK := hide hK
                  go_simp
                  exact hK.out
                | 1, _, hm, _ => exact (Bool.false_ne_true ((show false = mayAt _ _ _ _ by kernel_rfl).trans hm)).elim
                | 2, _, hm, _ => exact (Bool.false_ne_true ((show false = mayAt _ _ _ _ by kernel_rfl).trans hm)).elim
                | c + 3, hc, _, _ => exact absurd hc (by simp)
              case o15 =>
                intro g hk hp c hc hm K hK
                match c, hc, hm, hK with
                | 0, _, _, hK =>
                  have p46 : g 46 = .agg #[.int .i64 y1, .int .i64 y2] := hp 9 (by kernel_rfl) 46 (by kernel_rfl)
                  have e46 := actOf_get 53 g ([] : List Deferred) 46 (by omega) p46
                  have p51 : g 51 = .pointer (some ⟨b, j * 2, none⟩) := hp 14 (by kernel_rfl) 51 (by kernel_rfl)
                  have e51 := actOf_get 53 g ([] : List Deferred) 51 (by omega) p51
                  clear hk hp
                  have lc0 := dx1.out
                  have lc1 := dx2.out
                  have lc2 := fx1.out
                  have lc3 := fx2.out
                  refine wpOp_free rfl rfl ?_
                  show Oper.wp _ _ _ W0 _ _
                  replace hK := hide hK
                  go_simp
                  rw [← HW1.out]; exact hK.out
                | 1, _, hm, _ => exact (Bool.false_ne_true ((show false = mayAt _ _ _ _ by kernel_rfl).trans hm)).elim
                | 2, _, hm, _ => exact (Bool.false_ne_true ((show false = mayAt _ _ _ _ by kernel_rfl).trans hm)).elim
                | c + 3, hc, _, _ => exact absurd hc (by simp)
              case o16 =>
                intro g hk hp c hc hm K hK
                match c, hc, hm, hK with
                | 0, _, hm, _ => exact (Bool.false_ne_true ((show false = mayAt _ _ _ _ by kernel_rfl).trans hm)).elim
                | 1, _, _, hK =>
                  have p39 : g 39 = .slice (some ⟨b, 0, none⟩) n cap := hp 2 (by kernel_rfl) 39 (by kernel_rfl)
                  have e39 := actOf_get 53 g ([] : List Deferred) 39 (by omega) p39
                  have p41 : g 41 = .int .i64 (m : Int) := hp 4 (by kernel_rfl) 41 (by kernel_rfl)
                  have e41 := actOf_get 53 g ([] : List Deferred) 41 (by omega) p41
                  clear hk hp
                  refine wpOp_free rfl rfl ?_
                  show Oper.wp _ _ _ W1 _ _
                  replace hK := hide hK
                  go_simp
                  exact hK.out
                | 2, _, hm, _ => exact (Bool.false_ne_true ((show false = mayAt _ _ _ _ by kernel_rfl).trans hm)).elim
                | c + 3, hc, _, _ => exact absurd hc (by simp)
              case o17 =>
                intro g hk hp c hc hm K hK
                match c, hc, hm, hK with
                | 0, _, hm, _ => exact (Bool.false_ne_true ((show false = mayAt _ _ _ _ by kernel_rfl).trans hm)).elim
                | 1, _, _, hK =>
                  have p50 : g 50 = .agg #[.int .i64 x1, .int .i64 x2] := hp 13 (by kernel_rfl) 50 (by kernel_rfl)
                  have e50 := actOf_get 53 g ([] : List Deferred) 50 (by omega) p50
                  have p52 : g 52 = .pointer (some ⟨b, m * 2, none⟩) := hp 16 (by kernel_rfl) 52 (by kernel_rfl)
                  have e52 := actOf_get 53 g ([] : List Deferred) 52 (by omega) p52
                  clear hk hp
                  have lc0 := dm1.out
                  have lc1 := dm2.out
                  have lc2 := fm1.out
                  have lc3 := fm2.out
                  refine wpOp_free rfl rfl ?_
                  show Oper.wp _ _ _ W1 _ _
                  replace hK := hide hK
                  go_simp
                  rw [← HW2.out]; exact hK.out
                | 2, _, hm, _ => exact (Bool.false_ne_true ((show false = mayAt _ _ _ _ by kernel_rfl).trans hm)).elim
                | c + 3, hc, _, _ => exact absurd hc (by simp)
              intro g hP
              clear hP
              have e2 : Sw6W W0 W1 W2 (List.length [15, 17]) = W2 := rfl
              rw [e2]
              simp only [putAll, Act.put, List.setIfInBounds_toArray, List.set_cons_zero, List.set_cons_succ]
              clear e2
              go_wp2_with (fail)
              go_roundg (m - a)
              case measure => have := HJM.out; omega
              case rel => exact ⟨m, u1', (y1, y2) :: u2, hma, by have := HJM.out; omega, Nat.le_refl _, congrArg (Value.int .i64) (show (j : Int) - 1 = (m : Int) by have := HJM.out; omega), HF.out.1, HM.out, (hide (by rw [UU.out, HU.out]; simp)), (hide (fun z hz => by
                  rcases List.mem_cons.1 hz with e | e
                  · rw [e]; exact hxy.out
                  · exact UX.out z e)), HF.out.2⟩
      · have hltz : ¬ (i : Int) < (E : Int) := by omega
        have : i = E := by omega
        subst this
        have hr : r = [] := by
          have h1 := congrArg List.length TR.out; have h2 := ST.out.len; have h3 := IL.out; have h4 := HES.out; simp at h1
          exact List.eq_nil_of_length_eq_zero (by omega)
        have HR := hide hr
        clear hr
        go_wp2
        go_end0
        exact ⟨rfl, u, by have := OW.out; rw [HR.out] at this; simpa using this, SU.out, by have := TR.out; rw [HR.out, List.append_nil] at this; rw [this]; exact ST.out, GB.out⟩
end Go.Proofs.Ytiaifphidcfddaa
