/-
  The stable sort of backends: two rows change places.
-/
import Derived.Test.YtiaifphidcfddaaStab
set_option linter.unusedVariables false
set_option linter.unusedSimpArgs false
namespace Go.Proofs.Ytiaifphidcfddaa
open Go.RowKit Go.Shelf

/-- Two elements of a row change places, the nearer one first. -/
theorem swap_far (A V B : List Bk) (x y : Bk) : ((A ++ x :: (V ++ y :: B)).set A.length y).set (A.length + 1 + V.length) x = A ++ y :: (V ++ x :: B) := by
  rw [List.set_append_right _ _ (Nat.le_refl _), Nat.sub_self, List.set_cons_zero, List.set_append_right _ _ (by omega), show A.length + 1 + V.length - A.length = V.length + 1 by omega, List.set_cons_succ, List.set_append_right _ _ (Nat.le_refl _), Nat.sub_self, List.set_cons_zero]

def SwRV (b n cap i j m a c : Nat) (x1 x2 y1 y2 : Int) : Nat → Value
  | 0 => .slice (some ⟨b, 0, none⟩) n cap
  | 1 => .int .i64 (a : Int)
  | 2 => .int .i64 (i : Int)
  | 3 => .int .i64 (j : Int)
  | 4 => .slice (some ⟨b, 0, none⟩) n cap
  | 5 => .int .i64 (c : Int)
  | 6 => .int .i64 (i : Int)
  | 7 => .int .i64 (m : Int)
  | 8 => .slice (some ⟨b, 0, none⟩) n cap
  | 9 => .int .i64 (c : Int)
  | 10 => .int .i64 (i : Int)
  | 11 => .int .i64 (m : Int)
  | 12 => .pointer (some ⟨b, m * 2, none⟩)
  | 13 => .agg #[.int .i64 y1, .int .i64 y2]
  | 14 => .slice (some ⟨b, 0, none⟩) n cap
  | 15 => .int .i64 (a : Int)
  | 16 => .int .i64 (i : Int)
  | 17 => .int .i64 (j : Int)
  | 18 => .pointer (some ⟨b, j * 2, none⟩)
  | 19 => .agg #[.int .i64 x1, .int .i64 x2]
  | 20 => .pointer (some ⟨b, j * 2, none⟩)
  | 21 => undef
  | 22 => .pointer (some ⟨b, m * 2, none⟩)
  | 23 => undef
  | _ => undef
def SwRW (W0 W1 W2 : World) : Nat → World
  | 0 => W0
  | 1 => W1
  | _ => W2

set_option maxRecDepth 100000 in
set_option maxHeartbeats 8000000 in
theorem SwapRange_calls (b n cap base a c L : Nat) (p u v z q : List Bk) (f : Value) (w : World) (ho : Ow 2 bkc 56 base w (.slice (some ⟨b, 0, none⟩) n cap) (p ++ (u ++ (v ++ (z ++ q))))) (hA : a = p.length) (hL : L = u.length) (hLz : L = z.length) (hc : c = a + L + v.length) (hn : n ≤ 1048576) :
    Calls Try.prog 150 #[.slice (some ⟨b, 0, none⟩) n cap, .int .i64 (a : Int), .int .i64 (c : Int), .int .i64 (L : Int), f] w fun e w' => e = .returned (.tuple #[]) ∧
      Ow 2 bkc 56 base w' (.slice (some ⟨b, 0, none⟩) n cap) (p ++ (z ++ (v ++ (u ++ q)))) ∧ w.grownBy w' (some b) := by
  have hnl := ho.len_bk
  have hcn : c + L ≤ n := by rw [hnl]; simp; omega
  have HO := hide ho
  have HA := hide hA
  have HL := hide hL
  have HLZ := hide hLz
  have HC := hide hc
  clear ho hA hL hLz hnl hc
  go_enter Try.func150, Try.ntmps150
  go_wp2
  go_loopg [10] L (fun gg s10 wr => ∃ (i : Nat), i ≤ L ∧ L - i ≤ gg ∧ s10 = .int .i64 (i : Int) ∧ Hid (Ow 2 bkc 56 base wr (.slice (some ⟨b, 0, none⟩) n cap) (p ++ (z.take i ++ (u.drop i ++ (v ++ (u.take i ++ (z.drop i ++ q))))))) ∧ Hid (w.grownBy wr (some b)))
  case atStart => exact ⟨0, Nat.zero_le _, by omega, rfl, (hide (by simpa using HO.out)), World.grownBy.refl _ _⟩
  case round =>
    obtain ⟨i, hi, hg, rfl, OW, GB⟩ := hrel
    obtain ⟨wq, hwq⟩ : ∃ wq, wq = wr := ⟨_, rfl⟩
    subst hwq
    by_cases hlt : i < L
    · have hltz : (i : Int) < (L : Int) := by omega
      obtain ⟨j, hj⟩ : ∃ j, j = a + i := ⟨_, rfl⟩
      obtain ⟨m, hm⟩ : ∃ m, m = c + i := ⟨_, rfl⟩
      have hlu : i < u.length := by have := HL.out; omega
      have hlz : i < z.length := by have := HLZ.out; omega
      obtain ⟨x1, x2, hx0⟩ : ∃ x1 x2, u[i] = (x1, x2) := ⟨_, _, rfl⟩
      obtain ⟨y1, y2, hy0⟩ : ∃ y1 y2, z[i] = (y1, y2) := ⟨_, _, rfl⟩
      have hud : u.drop i = (x1, x2) :: u.drop (i + 1) := by rw [← hx0]; exact List.drop_eq_getElem_cons hlu
      have hzd : z.drop i = (y1, y2) :: z.drop (i + 1) := by rw [← hy0]; exact List.drop_eq_getElem_cons hlz
      have hut : u.take (i + 1) = u.take i ++ [(x1, x2)] := by rw [List.take_add_one, List.getElem?_eq_getElem hlu, hx0]; rfl
      have hzt : z.take (i + 1) = z.take i ++ [(y1, y2)] := by rw [List.take_add_one, List.getElem?_eq_getElem hlz, hy0]; rfl
      have hlist : p ++ (z.take i ++ (u.drop i ++ (v ++ (u.take i ++ (z.drop i ++ q))))) = (p ++ z.take i) ++ (x1, x2) :: ((u.drop (i + 1) ++ v ++ u.take i) ++ (y1, y2) :: (z.drop (i + 1) ++ q)) := by rw [hud, hzd]; simp
      have hnext : p ++ (z.take (i + 1) ++ (u.drop (i + 1) ++ (v ++ (u.take (i + 1) ++ (z.drop (i + 1) ++ q))))) = (p ++ z.take i) ++ (y1, y2) :: ((u.drop (i + 1) ++ v ++ u.take i) ++ (x1, x2) :: (z.drop (i + 1) ++ q)) := by rw [hut, hzt]; simp
      have hpl : (p ++ z.take i).length = j := by rw [List.length_append, List.length_take, Nat.min_eq_left (by omega), ← HA.out, hj]
      have hml : j + 1 + (u.drop (i + 1) ++ v ++ u.take i).length = m := by
        have h1 := HC.out
        have h2 := HL.out
        simp only [List.length_append, List.length_drop, List.length_take]
        rw [hj, hm, h1, Nat.min_eq_left (by omega)]; omega
      have OW1 := OW.out
      rw [hlist] at OW1
      have hx : ((p ++ z.take i) ++ (x1, x2) :: ((u.drop (i + 1) ++ v ++ u.take i) ++ (y1, y2) :: (z.drop (i + 1) ++ q)))[j]? = some (x1, x2) := by
        rw [List.getElem?_append_right (by omega), hpl, Nat.sub_self]; rfl
      have hy : ((p ++ z.take i) ++ (x1, x2) :: ((u.drop (i + 1) ++ v ++ u.take i) ++ (y1, y2) :: (z.drop (i + 1) ++ q)))[m]? = some (y1, y2) := by
        rw [List.getElem?_append_right (by omega), hpl, show m - j = (u.drop (i + 1) ++ v ++ u.take i).length + 1 by omega, List.getElem?_cons_succ, List.getElem?_append_right (Nat.le_refl _), Nat.sub_self]; rfl
      have hjn : j < n := by omega
      have hmn : m < n := by omega
      have hlt2 : (j : Int) < (n : Int) := by omega
      have hlt3 : (m : Int) < (n : Int) := by omega
      have hj1 := hide (show IntKind.i64.wrap ((a : Int) + (i : Int)) = (j : Int) by rw [IntWalk.i64_in _ (by omega)]; omega)
      have hm1 := hide (show IntKind.i64.wrap ((c : Int) + (i : Int)) = (m : Int) by rw [IntWalk.i64_in _ (by omega)]; omega)
      obtain ⟨W0, hW0⟩ : ∃ W0, W0 = wq.drew := ⟨_, rfl⟩
      have OWa := OW1.below (W := W0) (by rw [hW0]; exact (Below.refl _ _).drew)
      have ga : wq.grownBy W0 (some b) := by rw [hW0]; exact grownBy_of_below (Below.refl _ _).drew _
      have dx1 := hide (OWa.cells_at hx).1
      have dx2 := hide (OWa.cells_at hx).2
      have dy1 := hide (OWa.cells_at hy).1
      have dy2 := hide (OWa.cells_at hy).2
      have fx1 := hide (OWa.frz (j * 2))
      have fx2 := hide (OWa.frz (j * 2 + 1))
      obtain ⟨OWb, gb⟩ := OWa.set_bk j (List.getElem?_eq_some_iff.1 hx).1 y1 y2
      obtain ⟨W1, hW1⟩ : ∃ W1, W1 = (W0.setCell ⟨b, j * 2, none⟩ (.int .i64 y1)).setCell ⟨b, j * 2 + 1, none⟩ (.int .i64 y2) := ⟨_, rfl⟩
      rw [← hW1] at OWb gb
      have hmj : m ≠ j := by omega
      have hym : (((p ++ z.take i) ++ (x1, x2) :: ((u.drop (i + 1) ++ v ++ u.take i) ++ (y1, y2) :: (z.drop (i + 1) ++ q))).set j (y1, y2))[m]? = some (y1, y2) := by rw [List.getElem?_set, if_neg (by omega)]; exact hy
      have dm1 := hide (OWb.cells_at hym).1
      have dm2 := hide (OWb.cells_at hym).2
      have fm1 := hide (OWb.frz (m * 2))
      have fm2 := hide (OWb.frz (m * 2 + 1))
      obtain ⟨OWc, gc⟩ := OWb.set_bk m (List.getElem?_eq_some_iff.1 hym).1 x1 x2
      obtain ⟨W2, hW2⟩ : ∃ W2, W2 = (W1.setCell ⟨b, m * 2, none⟩ (.int .i64 x1)).setCell ⟨b, m * 2 + 1, none⟩ (.int .i64 x2) := ⟨_, rfl⟩
      rw [← hW2] at OWc gc
      have hfin : Ow 2 bkc 56 base W2 (.slice (some ⟨b, 0, none⟩) n cap) (p ++ (z.take (i + 1) ++ (u.drop (i + 1) ++ (v ++ (u.take (i + 1) ++ (z.drop (i + 1) ++ q)))))) ∧ w.grownBy W2 (some b) := by
        refine ⟨?_, grownBy_step (grownBy_step (grownBy_step GB.out ga) gb) gc⟩
        have h5 := swap_far (p ++ z.take i) (u.drop (i + 1) ++ v ++ u.take i) (z.drop (i + 1) ++ q) (x1, x2) (y1, y2)
        rw [hpl, hml] at h5
        rw [hnext, ← h5]; exact OWc
      have HW0 := hide hW0
      have HW1 := hide hW1
      have HW2 := hide hW2
      have HF := hide hfin
      clear hx hy hym OWa OWb OWc OW1 ga gb gc hW0 hW1 hW2 hfin hx0 hy0 hud hzd hut hzt hlist hnext hpl hml hj hm
      go_wp2
      refine wp_region_fix 38 [16, 17, 18, 19, 20, 21, 22, 23, 24, 25, 26, 27, 28, 29, 30, 31, 32, 33, 34, 35, 36, 37] [1, 1, 1, 2, 1, 1, 1, 2, 1, 1, 1, 2, 3, 4, 1, 1, 1, 2, 3, 4, 5, 6, 7, 8] [21, 23] (SwRV b n cap i j m a c x1 x2 y1 y2) (SwRW W0 W1 W2) (by kernel_rfl) (by kernel_rfl) (by kernel_rfl) (by kernel_rfl) rfl (by kernel_rfl) (by kernel_rfl) HW0.out ⟨⟨⟨⟨⟨⟨⟨⟨⟨⟨⟨⟨⟨⟨⟨⟨⟨⟨⟨⟨⟨⟨⟨⟨trivial, ?o0⟩, ?o1⟩, ?o2⟩, ?o3⟩, ?o4⟩, ?o5⟩, ?o6⟩, ?o7⟩, ?o8⟩, ?o9⟩, ?o10⟩, ?o11⟩, ?o12⟩, ?o13⟩, ?o14⟩, ?o15⟩, ?o16⟩, ?o17⟩, ?o18⟩, ?o19⟩, ?o20⟩, ?o21⟩, ?o22⟩, ?o23⟩ ?_
      case o0 =>
        intro g hk hp cI hcI hm K hK
        match cI, hcI, hm, hK with
        | 0, _, _, hK =>
          have p0 : g 0 = .slice (some ⟨b, 0, none⟩) n cap := Option.some.inj (hk 0 (by decide) (by kernel_rfl))
          have e0 := actOf_get 38 g ([] : List Deferred) 0 (by omega) p0
          clear hk hp
          refine wpOp_free rfl rfl ?_
          show Oper.wp _ _ _ W0 _ _
          replace hK := hide hK
          go_simp
          exact hK.out
        | 1, _, hm, _ => exact (Bool.false_ne_true ((show false = mayAt _ _ _ _ by kernel_rfl).trans hm)).elim
        | 2, _, hm, _ => exact (Bool.false_ne_true ((show false = mayAt _ _ _ _ by kernel_rfl).trans hm)).elim
        | cI + 3, hcI, _, _ => exact absurd hcI (by simp)
      case o1 =>
        intro g hk hp cI hcI hm K hK
        match cI, hcI, hm, hK with
        | 0, _, _, hK =>
          have p1 : g 1 = .int .i64 (a : Int) := Option.some.inj (hk 1 (by decide) (by kernel_rfl))
          have e1 := actOf_get 38 g ([] : List Deferred) 1 (by omega) p1
          clear hk hp
          refine wpOp_free rfl rfl ?_
          show Oper.wp _ _ _ W0 _ _
          replace hK := hide hK
          go_simp
          exact hK.out
        | 1, _, hm, _ => exact (Bool.false_ne_true ((show false = mayAt _ _ _ _ by kernel_rfl).trans hm)).elim
        | 2, _, hm, _ => exact (Bool.false_ne_true ((show false = mayAt _ _ _ _ by kernel_rfl).trans hm)).elim
        | cI + 3, hcI, _, _ => exact absurd hcI (by simp)
      case o2 =>
        intro g hk hp cI hcI hm K hK
        match cI, hcI, hm, hK with
        | 0, _, _, hK =>
          have p10 : g 10 = .int .i64 (i : Int) := Option.some.inj (hk 10 (by decide) (by kernel_rfl))
          have e10 := actOf_get 38 g ([] : List Deferred) 10 (by omega) p10
          clear hk hp
          refine wpOp_free rfl rfl ?_
          show Oper.wp _ _ _ W0 _ _
          replace hK := hide hK
          go_simp
          exact hK.out
        | 1, _, hm, _ => exact (Bool.false_ne_true ((show false = mayAt _ _ _ _ by kernel_rfl).trans hm)).elim
        | 2, _, hm, _ => exact (Bool.false_ne_true ((show false = mayAt _ _ _ _ by kernel_rfl).trans hm)).elim
        | cI + 3, hcI, _, _ => exact absurd hcI (by simp)
      case o3 =>
        intro g hk hp cI hcI hm K hK
        match cI, hcI, hm, hK with
        | 0, _, _, hK =>
          have p17 : g 17 = .int .i64 (a : Int) := hp 1 (by kernel_rfl) 17 (by kernel_rfl)
          have e17 := actOf_get 38 g ([] : List Deferred) 17 (by omega) p17
          have p18 : g 18 = .int .i64 (i : Int) := hp 2 (by kernel_rfl) 18 (by kernel_rfl)
          have e18 := actOf_get 38 g ([] : List Deferred) 18 (by omega) p18
          clear hk hp
          refine wpOp_free rfl rfl ?_
          show Oper.wp _ _ _ W0 _ _
          replace hK := hide hK
          go_simp
          rw [hj1.out]; exact hK.out
        | 1, _, hm, _ => exact (Bool.false_ne_true ((show false = mayAt _ _ _ _ by kernel_rfl).trans hm)).elim
        | 2, _, hm, _ => exact (Bool.false_ne_true ((show false = mayAt _ _ _ _ by kernel_rfl).trans hm)).elim
        | cI + 3, hcI, _, _ => exact absurd hcI (by simp)
      case o4 =>
        intro g hk hp cI hcI hm K hK
        match cI, hcI, hm, hK with
        | 0, _, _, hK =>
          have p0 : g 0 = .slice (some ⟨b, 0, none⟩) n cap := Option.some.inj (hk 0 (by decide) (by kernel_rfl))
          have e0 := actOf_get 38 g ([] : List Deferred) 0 (by omega) p0
          clear hk hp
          refine wpOp_free rfl rfl ?_
          show Oper.wp _ _ _ W0 _ _
          replace hK := hide hK
          go_simp
          exact hK.out
        | 1, _, _, hK =>
          have p0 : g 0 = .slice (some ⟨b, 0, none⟩) n cap := Option.some.inj (hk 0 (by decide) (by kernel_rfl))
          have e0 := actOf_get 38 g ([] : List Deferred) 0 (by omega) p0
          clear hk hp
          refine wpOp_free rfl rfl ?_
          show Oper.wp _ _ _ W1 _ _
          replace hK := hide hK
          go_simp
          exact hK.out
        | 2, _, hm, _ => exact (Bool.false_ne_true ((show false = mayAt _ _ _ _ by kernel_rfl).trans hm)).elim
        | cI + 3, hcI, _, _ => exact absurd hcI (by simp)
      case o5 =>
        intro g hk hp cI hcI hm K hK
        match cI, hcI, hm, hK with
        | 0, _, _, hK =>
          have p2 : g 2 = .int .i64 (c : Int) := Option.some.inj (hk 2 (by decide) (by kernel_rfl))
          have e2 := actOf_get 38 g ([] : List Deferred) 2 (by omega) p2
          clear hk hp
          refine wpOp_free rfl rfl ?_
          show Oper.wp _ _ _ W0 _ _
          replace hK := hide hK
          go_simp
          exact hK.out
        | 1, _, _, hK =>
          have p2 : g 2 = .int .i64 (c : Int) := Option.some.inj (hk 2 (by decide) (by kernel_rfl))
          have e2 := actOf_get 38 g ([] : List Deferred) 2 (by omega) p2
          clear hk hp
          refine wpOp_free rfl rfl ?_
          show Oper.wp _ _ _ W1 _ _
          replace hK := hide hK
          go_simp
          exact hK.out
        | 2, _, hm, _ => exact (Bool.false_ne_true ((show false = mayAt _ _ _ _ by kernel_rfl).trans hm)).elim
        | cI + 3, hcI, _, _ => exact absurd hcI (by simp)
      case o6 =>
        intro g hk hp cI hcI hm K hK
        match cI, hcI, hm, hK with
        | 0, _, _, hK =>
          have p10 : g 10 = .int .i64 (i : Int) := Option.some.inj (hk 10 (by decide) (by kernel_rfl))
          have e10 := actOf_get 38 g ([] : List Deferred) 10 (by omega) p10
          clear hk hp
          refine wpOp_free rfl rfl ?_
          show Oper.wp _ _ _ W0 _ _
          replace hK := hide hK
          go_simp
          exact hK.out
        | 1, _, _, hK =>
          have p10 : g 10 = .int .i64 (i : Int) := Option.some.inj (hk 10 (by decide) (by kernel_rfl))
          have e10 := actOf_get 38 g ([] : List Deferred) 10 (by omega) p10
          clear hk hp
          refine wpOp_free rfl rfl ?_
          show Oper.wp _ _ _ W1 _ _
          replace hK := hide hK
          go_simp
          exact hK.out
        | 2, _, hm, _ => exact (Bool.false_ne_true ((show false = mayAt _ _ _ _ by kernel_rfl).trans hm)).elim
        | cI + 3, hcI, _, _ => exact absurd hcI (by simp)
      case o7 =>
        intro g hk hp cI hcI hm K hK
        match cI, hcI, hm, hK with
        | 0, _, _, hK =>
          have p21 : g 21 = .int .i64 (c : Int) := hp 5 (by kernel_rfl) 21 (by kernel_rfl)
          have e21 := actOf_get 38 g ([] : List Deferred) 21 (by omega) p21
          have p22 : g 22 = .int .i64 (i : Int) := hp 6 (by kernel_rfl) 22 (by kernel_rfl)
          have e22 := actOf_get 38 g ([] : List Deferred) 22 (by omega) p22
          clear hk hp
          refine wpOp_free rfl rfl ?_
          show Oper.wp _ _ _ W0 _ _
          replace hK := hide hK
          go_simp
          rw [hm1.out]; exact hK.out
        | 1, _, _, hK =>
          have p21 : g 21 = .int .i64 (c : Int) := hp 5 (by kernel_rfl) 21 (by kernel_rfl)
          have e21 := actOf_get 38 g ([] : List Deferred) 21 (by omega) p21
          have p22 : g 22 = .int .i64 (i : Int) := hp 6 (by kernel_rfl) 22 (by kernel_rfl)
          have e22 := actOf_get 38 g ([] : List Deferred) 22 (by omega) p22
          clear hk hp
          refine wpOp_free rfl rfl ?_
          show Oper.wp _ _ _ W1 _ _
          replace hK := hide hK
          go_simp
          rw [hm1.out]; exact hK.out
        | 2, _, hm, _ => exact (Bool.false_ne_true ((show false = mayAt _ _ _ _ by kernel_rfl).trans hm)).elim
        | cI + 3, hcI, _, _ => exact absurd hcI (by simp)
      case o8 =>
        intro g hk hp cI hcI hm K hK
        match cI, hcI, hm, hK with
        | 0, _, _, hK =>
          have p0 : g 0 = .slice (some ⟨b, 0, none⟩) n cap := Option.some.inj (hk 0 (by decide) (by kernel_rfl))
          have e0 := actOf_get 38 g ([] : List Deferred) 0 (by omega) p0
          clear hk hp
          refine wpOp_free rfl rfl ?_
          show Oper.wp _ _ _ W0 _ _
          replace hK := hide hK
          go_simp
          exact hK.out
        | 1, _, hm, _ => exact (Bool.false_ne_true ((show false = mayAt _ _ _ _ by kernel_rfl).trans hm)).elim
        | 2, _, hm, _ => exact (Bool.false_ne_true ((show false = mayAt _ _ _ _ by kernel_rfl).trans hm)).elim
        | cI + 3, hcI, _, _ => exact absurd hcI (by simp)
      case o9 =>
        intro g hk hp cI hcI hm K hK
        match cI, hcI, hm, hK with
        | 0, _, _, hK =>
          have p2 : g 2 = .int .i64 (c : Int) := Option.some.inj (hk 2 (by decide) (by kernel_rfl))
          have e2 := actOf_get 38 g ([] : List Deferred) 2 (by omega) p2
          clear hk hp
          refine wpOp_free rfl rfl ?_
          show Oper.wp _ _ _ W0 _ _
          replace hK := hide hK
          go_simp
          exact hK.out
        | 1, _, hm, _ => exact (Bool.false_ne_true ((show false = mayAt _ _ _ _ by kernel_rfl).trans hm)).elim
        | 2, _, hm, _ => exact (Bool.false_ne_true ((show false = mayAt _ _ _ _ by kernel_rfl).trans hm)).elim
        | cI + 3, hcI, _, _ => exact absurd hcI (by simp)
      case o10 =>
        intro g hk hp cI hcI hm K hK
        match cI, hcI, hm, hK with
        | 0, _, _, hK =>
          have p10 : g 10 = .int .i64 (i : Int) := Option.some.inj (hk 10 (by decide) (by kernel_rfl))
          have e10 := actOf_get 38 g ([] : List Deferred) 10 (by omega) p10
          clear hk hp
          refine wpOp_free rfl rfl ?_
          show Oper.wp _ _ _ W0 _ _
          replace hK := hide hK
          go_simp
          exact hK.out
        | 1, _, hm, _ => exact (Bool.false_ne_true ((show false = mayAt _ _ _ _ by kernel_rfl).trans hm)).elim
        | 2, _, hm, _ => exact (Bool.false_ne_true ((show false = mayAt _ _ _ _ by kernel_rfl).trans hm)).elim
        | cI + 3, hcI, _, _ => exact absurd hcI (by simp)
      case o11 =>
        intro g hk hp cI hcI hm K hK
        match cI, hcI, hm, hK with
        | 0, _, _, hK =>
          have p25 : g 25 = .int .i64 (c : Int) := hp 9 (by kernel_rfl) 25 (by kernel_rfl)
          have e25 := actOf_get 38 g ([] : List Deferred) 25 (by omega) p25
          have p26 : g 26 = .int .i64 (i : Int) := hp 10 (by kernel_rfl) 26 (by kernel_rfl)
          have e26 := actOf_get 38 g ([] : List Deferred) 26 (by omega) p26
          clear hk hp
          refine wpOp_free rfl rfl ?_
          show Oper.wp _ _ _ W0 _ _
          replace hK := hide hK
          go_simp
          rw [hm1.out]; exact hK.out
        | 1, _, hm, _ => exact (Bool.false_ne_true ((show false = mayAt _ _ _ _ by kernel_rfl).trans hm)).elim
        | 2, _, hm, _ => exact (Bool.false_ne_true ((show false = mayAt _ _ _ _ by kernel_rfl).trans hm)).elim
        | cI + 3, hcI, _, _ => exact absurd hcI (by simp)
      case o12 =>
        intro g hk hp cI hcI hm K hK
        match cI, hcI, hm, hK with
        | 0, _, _, hK =>
          have p24 : g 24 = .slice (some ⟨b, 0, none⟩) n cap := hp 8 (by kernel_rfl) 24 (by kernel_rfl)
          have e24 := actOf_get 38 g ([] : List Deferred) 24 (by omega) p24
          have p27 : g 27 = .int .i64 (m : Int) := hp 11 (by kernel_rfl) 27 (by kernel_rfl)
          have e27 := actOf_get 38 g ([] : List Deferred) 27 (by omega) p27
          clear hk hp
          refine wpOp_free rfl rfl ?_
          show Oper.wp _ _ _ W0 _ _
          replace hK := hide hK
          go_simp
          exact hK.out
        | 1, _, hm, _ => exact (Bool.false_ne_true ((show false = mayAt _ _ _ _ by kernel_rfl).trans hm)).elim
        | 2, _, hm, _ => exact (Bool.false_ne_true ((show false = mayAt _ _ _ _ by kernel_rfl).trans hm)).elim
        | cI + 3, hcI, _, _ => exact absurd hcI (by simp)
      case o13 =>
        intro g hk hp cI hcI hm K hK
        match cI, hcI, hm, hK with
        | 0, _, _, hK =>
          have p28 : g 28 = .pointer (some ⟨b, m * 2, none⟩) := hp 12 (by kernel_rfl) 28 (by kernel_rfl)
          have e28 := actOf_get 38 g ([] : List Deferred) 28 (by omega) p28
          clear hk hp
          have lc0 := dy1.out
          have lc1 := dy2.out
          refine wpOp_free rfl rfl ?_
          show Oper.wp _ _ _ W0 _ _
          replace hK := hide hK
          go_simp
          exact hK.out
        | 1, _, hm, _ => exact (Bool.false_ne_true ((show false = mayAt _ _ _ _ by kernel_rfl).trans hm)).elim
        | 2, _, hm, _ => exact (Bool.false_ne_true ((show false = mayAt _ _ _ _ by kernel_rfl).trans hm)).elim
        | cI + 3, hcI, _, _ => exact absurd hcI (by simp)
      case o14 =>
        intro g hk hp cI hcI hm K hK
        match cI, hcI, hm, hK with
        | 0, _, _, hK =>
          have p0 : g 0 = .slice (some ⟨b, 0, none⟩) n cap := Option.some.inj (hk 0 (by decide) (by kernel_rfl))
          have e0 := actOf_get 38 g ([] : List Deferred) 0 (by omega) p0
          clear hk hp
          refine wpOp_free rfl rfl ?_
          show Oper.wp _ _ _ W0 _ _
          replace hK := hide hK
          go_simp
          exact hK.out
        | 1, _, _, hK =>
          have p0 : g 0 = .slice (some ⟨b, 0, none⟩) n cap := Option.some.inj (hk 0 (by decide) (by kernel_rfl))
          have e0 := actOf_get 38 g ([] : List Deferred) 0 (by omega) p0
          clear hk hp
          refine wpOp_free rfl rfl ?_
          show Oper.wp _ _ _ W1 _ _
          replace hK := hide hK
          go_simp
          exact hK.out
        | 2, _, hm, _ => exact (Bool.false_ne_true ((show false = mayAt _ _ _ _ by kernel_rfl).trans hm)).elim
        | cI + 3, hcI, _, _ => exact absurd hcI (by simp)
      case o15 =>
        intro g hk hp cI hcI hm K hK
        match cI, hcI, hm, hK with
        | 0, _, _, hK =>
          have p1 : g 1 = .int .i64 (a : Int) := Option.some.inj (hk 1 (by decide) (by kernel_rfl))
          have e1 := actOf_get 38 g ([] : List Deferred) 1 (by omega) p1
          clear hk hp
          refine wpOp_free rfl rfl ?_
          show Oper.wp _ _ _ W0 _ _
          replace hK := hide hK
          go_simp
          exact hK.out
        | 1, _, _, hK =>
          have p1 : g 1 = .int .i64 (a : Int) := Option.some.inj (hk 1 (by decide) (by kernel_rfl))
          have e1 := actOf_get 38 g ([] : List Deferred) 1 (by omega) p1
          clear hk hp
          refine wpOp_free rfl rfl ?_
          show Oper.wp _ _ _ W1 _ _
          replace hK := hide hK
          go_simp
          exact hK.out
        | 2, _, hm, _ => exact (Bool.false_ne_true ((show false = mayAt _ _ _ _ by kernel_rfl).trans hm)).elim
        | cI + 3, hcI, _, _ => exact absurd hcI (by simp)
      case o16 =>
        intro g hk hp cI hcI hm K hK
        match cI, hcI, hm, hK with
        | 0, _, _, hK =>
          have p10 : g 10 = .int .i64 (i : Int) := Option.some.inj (hk 10 (by decide) (by kernel_rfl))
          have e10 := actOf_get 38 g ([] : List Deferred) 10 (by omega) p10
          clear hk hp
          refine wpOp_free rfl rfl ?_
          show Oper.wp _ _ _ W0 _ _
          replace hK := hide hK
          go_simp
          exact hK.out
        | 1, _, _, hK =>
          have p10 : g 10 = .int .i64 (i : Int) := Option.some.inj (hk 10 (by decide) (by kernel_rfl))
          have e10 := actOf_get 38 g ([] : List Deferred) 10 (by omega) p10
          clear hk hp
          refine wpOp_free rfl rfl ?_
          show Oper.wp _ _ _ W1 _ _
          replace hK := hide hK
          go_simp
          exact hK.out
        | 2, _, hm, _ => exact (Bool.false_ne_true ((show false = mayAt _ _ _ _ by kernel_rfl).trans hm)).elim
        | cI + 3, hcI, _, _ => exact absurd hcI (by simp)
      case o17 =>
        intro g hk hp cI hcI hm K hK
        match cI, hcI, hm, hK with
        | 0, _, _, hK =>
          have p31 : g 31 = .int .i64 (a : Int) := hp 15 (by kernel_rfl) 31 (by kernel_rfl)
          have e31 := actOf_get 38 g ([] : List Deferred) 31 (by omega) p31
          have p32 : g 32 = .int .i64 (i : Int) := hp 16 (by kernel_rfl) 32 (by kernel_rfl)
          have e32 := actOf_get 38 g ([] : List Deferred) 32 (by omega) p32
          clear hk hp
          refine wpOp_free rfl rfl ?_
          show Oper.wp _ _ _ W0 _ _
          replace hK := hide hK
          go_simp
          rw [hj1.out]; exact hK.out
        | 1, _, _, hK =>
          have p31 : g 31 = .int .i64 (a : Int) := hp 15 (by kernel_rfl) 31 (by kernel_rfl)
          have e31 := actOf_get 38 g ([] : List Deferred) 31 (by omega) p31
          have p32 : g 32 = .int .i64 (i : Int) := hp 16 (by kernel_rfl) 32 (by kernel_rfl)
          have e32 := actOf_get 38 g ([] : List Deferred) 32 (by omega) p32
          clear hk hp
          refine wpOp_free rfl rfl ?_
          show Oper.wp _ _ _ W1 _ _
          replace hK := hide hK
          go_simp
          rw [hj1.out]; exact hK.out
        | 2, _, hm, _ => exact (Bool.false_ne_true ((show false = mayAt _ _ _ _ by kernel_rfl).trans hm)).elim
        | cI + 3, hcI, _, _ => exact absurd hcI (by simp)
      case o18 =>
        intro g hk hp cI hcI hm K hK
        match cI, hcI, hm, hK with
        | 0, _, _, hK =>
          have p30 : g 30 = .slice (some ⟨b, 0, none⟩) n cap := hp 14 (by kernel_rfl) 30 (by kernel_rfl)
          have e30 := actOf_get 38 g ([] : List Deferred) 30 (by omega) p30
          have p33 : g 33 = .int .i64 (j : Int) := hp 17 (by kernel_rfl) 33 (by kernel_rfl)
          have e33 := actOf_get 38 g ([] : List Deferred) 33 (by omega) p33
          clear hk hp
          refine wpOp_free rfl rfl ?_
          show Oper.wp _ _ _ W0 _ _
          replace hK := hide hK
          go_simp
          exact hK.out
        | 1, _, _, hK =>
          have p30 : g 30 = .slice (some ⟨b, 0, none⟩) n cap := hp 14 (by kernel_rfl) 30 (by kernel_rfl)
          have e30 := actOf_get 38 g ([] : List Deferred) 30 (by omega) p30
          have p33 : g 33 = .int .i64 (j : Int) := hp 17 (by kernel_rfl) 33 (by kernel_rfl)
          have e33 := actOf_get 38 g ([] : List Deferred) 33 (by omega) p33
          clear hk hp
          refine wpOp_free rfl rfl ?_
          show Oper.wp _ _ _ W1 _ _
          replace hK := hide hK
          go_simp
          exact hK.out
        | 2, _, hm, _ => exact (Bool.false_ne_true ((show false = mayAt _ _ _ _ by kernel_rfl).trans hm)).elim
        | cI + 3, hcI, _, _ => exact absurd hcI (by simp)
      case o19 =>
        intro g hk hp cI hcI hm K hK
        match cI, hcI, hm, hK with
        | 0, _, _, hK =>
          have p34 : g 34 = .pointer (some ⟨b, j * 2, none⟩) := hp 18 (by kernel_rfl) 34 (by kernel_rfl)
          have e34 := actOf_get 38 g ([] : List Deferred) 34 (by omega) p34
          clear hk hp
          have lc0 := dx1.out
          have lc1 := dx2.out
          refine wpOp_free rfl rfl ?_
          show Oper.wp _ _ _ W0 _ _
          replace hK := hide hK
          go_simp
          exact hK.out
        | 1, _, hm, _ => exact (Bool.false_ne_true ((show false = mayAt _ _ _ _ by kernel_rfl).trans hm)).elim
        | 2, _, hm, _ => exact (Bool.false_ne_true ((show false = mayAt _ _ _ _ by kernel_rfl).trans hm)).elim
        | cI + 3, hcI, _, _ => exact absurd hcI (by simp)
      case o20 =>
        intro g hk hp cI hcI hm K hK
        match cI, hcI, hm, hK with
        | 0, _, _, hK =>
          have p16 : g 16 = .slice (some ⟨b, 0, none⟩) n cap := hp 0 (by kernel_rfl) 16 (by kernel_rfl)
          have e16 := actOf_get 38 g ([] : List Deferred) 16 (by omega) p16
          have p19 : g 19 = .int .i64 (j : Int) := hp 3 (by kernel_rfl) 19 (by kernel_rfl)
          have e19 := actOf_get 38 g ([] : List Deferred) 19 (by omega) p19
          clear hk hp
          refine wpOp_free rfl rfl ?_
          show Oper.wp _ _ _ W0 _ _
          replace hK := hide hK
          go_simp
          exact hK.out
        | 1, _, hm, _ => exact (Bool.false_ne_true ((show false = mayAt _ _ _ _ by kernel_rfl).trans hm)).elim
        | 2, _, hm, _ => exact (Bool.false_ne_true ((show false = mayAt _ _ _ _ by kernel_rfl).trans hm)).elim
        | cI + 3, hcI, _, _ => exact absurd hcI (by simp)
      case o21 =>
        intro g hk hp cI hcI hm K hK
        match cI, hcI, hm, hK with
        | 0, _, _, hK =>
          have p29 : g 29 = .agg #[.int .i64 y1, .int .i64 y2] := hp 13 (by kernel_rfl) 29 (by kernel_rfl)
          have e29 := actOf_get 38 g ([] : List Deferred) 29 (by omega) p29
          have p36 : g 36 = .pointer (some ⟨b, j * 2, none⟩) := hp 20 (by kernel_rfl) 36 (by kernel_rfl)
          have e36 := actOf_get 38 g ([] : List Deferred) 36 (by omega) p36
          clear hk hp
          have lc0 := dx1.out
          have lc1 := dx2.out
          have lc2 := fx1.out
          have lc3 := fx2.out
          refine wpOp_free rfl rfl ?_
          show Oper.wp _ _ _ W0 _ _
          replace hK := hide hK
          go_simp
          rw [← HW1.out]; exact hK.out
        | 1, _, hm, _ => exact (Bool.false_ne_true ((show false = mayAt _ _ _ _ by kernel_rfl).trans hm)).elim
        | 2, _, hm, _ => exact (Bool.false_ne_true ((show false = mayAt _ _ _ _ by kernel_rfl).trans hm)).elim
        | cI + 3, hcI, _, _ => exact absurd hcI (by simp)
      case o22 =>
        intro g hk hp cI hcI hm K hK
        match cI, hcI, hm, hK with
        | 0, _, hm, _ => exact (Bool.false_ne_true ((show false = mayAt _ _ _ _ by kernel_rfl).trans hm)).elim
        | 1, _, _, hK =>
          have p20 : g 20 = .slice (some ⟨b, 0, none⟩) n cap := hp 4 (by kernel_rfl) 20 (by kernel_rfl)
          have e20 := actOf_get 38 g ([] : List Deferred) 20 (by omega) p20
          have p23 : g 23 = .int .i64 (m : Int) := hp 7 (by kernel_rfl) 23 (by kernel_rfl)
          have e23 := actOf_get 38 g ([] : List Deferred) 23 (by omega) p23
          clear hk hp
          refine wpOp_free rfl rfl ?_
          show Oper.wp _ _ _ W1 _ _
          replace hK := hide hK
          go_simp
          exact hK.out
        | 2, _, hm, _ => exact (Bool.false_ne_true ((show false = mayAt _ _ _ _ by kernel_rfl).trans hm)).elim
        | cI + 3, hcI, _, _ => exact absurd hcI (by simp)
      case o23 =>
        intro g hk hp cI hcI hm K hK
        match cI, hcI, hm, hK with
        | 0, _, hm, _ => exact (Bool.false_ne_true ((show false = mayAt _ _ _ _ by kernel_rfl).trans hm)).elim
        | 1, _, _, hK =>
          have p35 : g 35 = .agg #[.int .i64 x1, .int .i64 x2] := hp 19 (by kernel_rfl) 35 (by kernel_rfl)
          have e35 := actOf_get 38 g ([] : List Deferred) 35 (by omega) p35
          have p37 : g 37 = .pointer (some ⟨b, m * 2, none⟩) := hp 22 (by kernel_rfl) 37 (by kernel_rfl)
          have e37 := actOf_get 38 g ([] : List Deferred) 37 (by omega) p37
          clear hk hp
          have lc0 := dm1.out
          have lc1 := dm2.out
          have lc2 := fm1.out
          have lc3 := fm2.out
          refine wpOp_free rfl rfl ?_
          show Oper.wp _ _ _ W1 _ _
          replace hK := hide hK
          go_simp
          rw [← HW2.out]; exact hK.out
        | 2, _, hm, _ => exact (Bool.false_ne_true ((show false = mayAt _ _ _ _ by kernel_rfl).trans hm)).elim
        | cI + 3, hcI, _, _ => exact absurd hcI (by simp)
      intro g hP
      clear hP
      have e2 : SwRW W0 W1 W2 (List.length [21, 23]) = W2 := rfl
      rw [e2]
      simp only [putAll, Act.put, List.setIfInBounds_toArray, List.set_cons_zero, List.set_cons_succ]
      clear e2
      go_wp2_with (fail)
      go_roundg (L - (i + 1))
      case measure => omega
      case rel => exact ⟨i + 1, by omega, Nat.le_refl _, by go_num, HF.out.1, HF.out.2⟩
    · have hltz : ¬ (i : Int) < (L : Int) := by omega
      have : i = L := by omega
      subst this
      have hfin : Ow 2 bkc 56 base wq (.slice (some ⟨b, 0, none⟩) n cap) (p ++ (z ++ (v ++ (u ++ q)))) := by
        have h := OW.out
        have h1 := HL.out
        have h2 := HLZ.out
        rw [List.take_of_length_le (by omega), List.drop_of_length_le (by omega), List.take_of_length_le (by omega), List.drop_of_length_le (by omega)] at h
        simpa using h
      have HF := hide hfin
      clear hfin
      go_wp2
      go_end0
      exact ⟨rfl, HF.out, GB.out⟩
end Go.Proofs.Ytiaifphidcfddaa
