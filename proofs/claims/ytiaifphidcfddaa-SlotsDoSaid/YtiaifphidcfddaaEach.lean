/-
  points.each: a pool's points, one by one.
-/
import Derived.Test.YtiaifphidcfddaaOrd
import Derived.Test.YtiaifphidcfddaaSeq
import Derived.Stop.RegionWithIn
set_option linter.unusedVariables false
set_option linter.unusedSimpArgs false
namespace Go.Proofs.Ytiaifphidcfddaa
open Go.RowKit Go.Shelf

attribute [local go_sem] Oper.semAt_some

/-- A pool that may be: ids and weights within their limits. -/
def Vp (xs : List Bk) : Prop := ∀ (j : Nat) (x : Bk), xs[j]? = some x → ∃ i m : Nat, x = ((i : Int), (m : Int)) ∧ 1 ≤ i ∧ i ≤ 65535 ∧ 1 ≤ m ∧ m ≤ 16

def ptB (b : Bk) (n : Nat) : Pt := (hashP b.1.toNat n, b.1)
def ptsB (b : Bk) : List Pt := (List.range (8 * b.2.toNat)).map (ptB b)
def ptsU (xs : List Bk) : List Pt := xs.flatMap ptsB

def ptc (x : Pt) : List Value := [.int .u64 x.1, .int .i64 x.2]
def ptv (x : Pt) : Value := .agg #[.int .u64 x.1, .int .i64 x.2]
theorem ptc_len (x : Pt) : (ptc x).length = 2 := rfl

/-- The backends' own boxes lie as they lay. -/
def KT (W W' : World) : Prop := ∀ (i : Nat) (c : Array Value) (m : Nat × Nat), W.heap[i]? = some (.cells c 56 m) → W'.heap[i]? = some (.cells c 56 m)
def Kp (n₀ : Nat) (W W' : World) : Prop := Below n₀ W W' ∧ KT W W'
theorem KT.refl (W : World) : KT W W := fun _ _ _ h => h
theorem KT.trans {A B C : World} (h : KT A B) (k : KT B C) : KT A C := fun i c m hi => k i c m (h i c m hi)
theorem KT.alloc (W : World) (o : Obj) : KT W (W.alloc o) := fun i c m hi => (Below.heap_alloc _ _ _ (Array.getElem?_eq_some_iff.1 hi).1).trans hi
theorem KT.below {W W' : World} (h : Below W.heap.size W W') : KT W W' := fun i c m hi => (h.block i (Array.getElem?_eq_some_iff.1 hi).1).trans hi
theorem kpK_t {n₀ : Nat} {A B C : World} (h : Kp n₀ A B) (k : Kp n₀ B C) : Kp n₀ A C := ⟨h.1.trans k.1, h.2.trans k.2⟩
theorem kpK_b {n₀ : Nat} {w : World} (hn : n₀ ≤ w.heap.size) (W : World) (l : Nat) (o o' : Obj) (hl : w.heap.size ≤ l) (h : W.heap[l]? = some o) (hc : o.isCells = false) (hw : o.isWalk = false) : Kp n₀ W (W.putObj l o') :=
  ⟨belowK_b hn W l o o' hl h hc hw, fun i c m hi => (World.putObj_heap_other (fun e => by subst e; rw [h] at hi; cases hi; cases hc)).trans hi⟩

theorem ptsU_snoc (xs : List Bk) (k : Nat) (b : Bk) (h : xs[k]? = some b) : ptsU (xs.take (k + 1)) = ptsU (xs.take k) ++ ptsB b := by
  rw [List.take_add_one, h]
  simp [ptsU]
theorem ptsB_snoc (b : Bk) (j : Nat) : (List.range (j + 1)).map (ptB b) = (List.range j).map (ptB b) ++ [ptB b j] := by
  rw [List.range_succ, List.map_append]; rfl
theorem ptsU_lt (xs : List Bk) (k j : Nat) (b : Bk) (h : xs[k]? = some b) (hj : j < 8 * b.2.toNat) : (ptsU (xs.take k) ++ (List.range j).map (ptB b)).length < (ptsU xs).length := by
  have e : xs = xs.take k ++ b :: xs.drop (k + 1) := by
    obtain ⟨hk, hb⟩ := List.getElem?_eq_some_iff.1 h
    rw [← hb, List.getElem_cons_drop, List.take_append_drop]
  conv => rhs; rw [e]
  simp only [ptsU, List.flatMap_append, List.flatMap_cons, List.length_append, List.length_map, List.length_range, ptsB]
  omega

set_option maxRecDepth 100000 in
set_option maxHeartbeats 4000000 in
theorem PEach1_in (n : Nat) (hn : 1 ≤ n) (l Bs n₀ : Nat) (a : Option Addr) (len cap : Nat) (xs : List Bk) (hv : Vp xs) (J Jx : List Pt → World → Prop)
    (W : World) (hJ : AbidesFrom W.heap.size J) (hY : ∀ pre x W, J pre W → pre.length < (ptsU xs).length → YieldAt Fence.wide (n - 1) Try.prog l #[ptv x] W fun e W' =>
      (e = .returned (.bool true) ∧ J (pre ++ [x]) W' ∧ Kp n₀ W W') ∨ (e = .returned (.bool false) ∧ Jx (pre ++ [x]) W'))
    (hBs : W.cell? ⟨Bs, 0, none⟩ = some (.slice a len cap)) (hr : Rd 2 bkc W a len xs) (hb : ∀ p, a = some p → 0 < len → p.block < n₀) (hn₀ : n₀ ≤ W.heap.size) (h0 : J [] W) :
    CallsIn Fence.wide n Try.prog 96 #[.func (.yield l) #[] #[], .pointer (some ⟨Bs, 0, none⟩)] W fun e W' => (∃ v, e = .returned v) ∧
      ((∃ ys, ys = ptsU xs ∧ J ys W') ∨ (∃ pre, True ∧ Jx pre W')) := by
  have hl := hr.le
  have HL := hide hr.len
  have HR := hide hr
  have HJ := hide hJ
  have HB := hide hb
  have HY := hide hY
  have HV := hide hv
  clear hr hJ hb hY hv
  refine callsIn_of_wp Try.func96 rfl trivial ?_ rfl
  simp only [Try.ntmps96, List.size_toArray, List.length_cons, List.length_nil, Nat.reduceAdd, Nat.reduceSub, Array.replicate_succ, Array.replicate_zero, List.push_toArray, List.append_toArray, List.nil_append, List.cons_append]
  gi_wp2
  gi_loopw [8] (fun i wr => ∃ k : Nat, k ≤ len ∧ i = .int .i64 k ∧ Hid (J (ptsU (xs.take k)) wr) ∧ Hid (Below n₀ W wr) ∧ Hid (W.heap.size ≤ wr.heap.size))
    (fun i _ => len - (intOf i).toNat)
  case atStart => exact ⟨0, Nat.zero_le _, rfl, (show Hid _ from h0), Below.refl _ _, Nat.le_refl _⟩
  case round =>
    obtain ⟨k, hk, rfl, HJs, hnx, hsz⟩ := hrel
    by_cases hlt : k < len
    · obtain ⟨b, off, x1, x2, ha, hx, hbl, hc1, hc2⟩ := HR.out.at_bk k hlt
      have hbn : b < n₀ := HB.out _ ha (by omega)
      obtain ⟨i, m, hxe, hi1, hi2, hm1, hm2⟩ := HV.out k _ hx
      obtain ⟨rfl, rfl⟩ := Prod.ext_iff.1 hxe
      have HX := hide hx
      clear hx hxe
      subst ha
      simp only at hc1 hc2
      have hd1 : wr.cell? ⟨b, off + k * 2, none⟩ = some (.int .i64 (i : Int)) := (hnx.out.cell (p := ⟨b, off + k * 2, none⟩) hbn).trans hc1
      have hd2 : wr.cell? ⟨b, off + k * 2 + 1, none⟩ = some (.int .i64 (m : Int)) := (hnx.out.cell (p := ⟨b, off + k * 2 + 1, none⟩) hbn).trans hc2
      have hm16 : ¬ (16 : Int) < (m : Int) := by omega
      clear hc1 hc2
      gi_wp2
      obtain ⟨wo, rfl⟩ : ∃ wo : World, wo = wr := ⟨_, rfl⟩
      have hJ2 : J (ptsU (xs.take k)) (wo.alloc (.cells #[.int .i64 (i : Int), .int .i64 (m : Int)] 56)) := HJ.out _ wo _ none HJs.out (World.grownBy_alloc _ _ _) (fun r e => (by cases e))
      have HJ2 := hide hJ2
      have hB2 : Below n₀ W (wo.alloc (.cells #[.int .i64 (i : Int), .int .i64 (m : Int)] 56)) := hnx.out.alloc (Nat.le_trans hn₀ hsz.out) _
      have HB2 := hide hB2
      have HS2 := hide (show W.heap.size ≤ (wo.alloc (.cells #[.int .i64 (i : Int), .int .i64 (m : Int)] 56)).heap.size by have := hsz.out; simp; omega)
      have HX2 := hide (World.alloc_heap_new wo (.cells #[.int .i64 (i : Int), .int .i64 (m : Int)] 56))
      clear hJ2 hB2 hd1 hd2 HJs hnx hsz
      gi_loopw [17] (fun t17 wr => ∃ j : Nat, j ≤ 8 * m ∧ t17 = .int .i64 (j : Int) ∧ Hid (J (ptsU (xs.take k) ++ (List.range j).map (ptB ((i : Int), (m : Int)))) wr) ∧ Hid (Below n₀ W wr) ∧ Hid (W.heap.size ≤ wr.heap.size) ∧ Hid (wr.heap[wo.heap.size]? = some (.cells #[.int .i64 (i : Int), .int .i64 (m : Int)] 56 (0, 0))))
        (fun t17 _ => 8 * m - (intOf t17).toNat)
      case atStart => exact ⟨0, Nat.zero_le _, rfl, (hide (by rw [List.range_zero, List.map_nil, List.append_nil]; exact HJ2.out)), HB2, HS2, HX2⟩
      case round =>
        obtain ⟨j, hj, rfl, HJi, HBi, HSi, HXi⟩ := hrel
        by_cases hjl : j < 8 * m
        · have hjz : (j : Int) < 8 * (m : Int) := by omega
          have hc1 : wr.cell? ⟨wo.heap.size, 0, none⟩ = some (.int .i64 (i : Int)) := by simp [World.cell?, HXi.out]
          have HHash := hide (Hash_calls i j (by omega) (by omega))
          have hjl2 : (ptsU (xs.take k) ++ (List.range j).map (ptB ((i : Int), (m : Int)))).length < (ptsU xs).length := ptsU_lt xs k j _ HX.out (by simpa using hjl)
          have HLT := hide hjl2
          have hf97 : Fence.wide.fn 97 := trivial
          clear hjl2
          gi_wp2
          gi_region_with (first
            | (gi_at_call 97; refine (callsIn_wide.2 (HHash.out _)).mono ?_; rintro e w2 ⟨rfl, hb2⟩;
                have HB3 := hide (show Below wr.heap.size wr w2 from ((Below.refl _ wr).drew).trans hb2); clear hb2;
                have hc2 : w2.cell? ⟨wo.heap.size, 0, none⟩ = some (.int .i64 (i : Int)) := (HB3.out.cell (p := ⟨wo.heap.size, 0, none⟩) (Array.getElem?_eq_some_iff.1 HXi.out).1).trans hc1;
                have HJ3 := hide (HJ.out _ wr w2 none HJi.out (grownBy_of_below HB3.out none) (fun r e => (by cases e)));
                obtain ⟨fn, tmps, assign, body, hy, hR⟩ := HY.out _ (ptB ((i : Int), (m : Int)) j) w2 HJ3.out HLT.out; simp only [ptv, ptB, Int.toNat_natCast] at hy)
            | (refine hR.mono ?_; rintro e W3 hcase; obtain ⟨r, rfl, hr2⟩ : ∃ r, e = .returned (.bool r) ∧ ((r = true ∧ J _ W3 ∧ Kp n₀ _ W3) ∨ (r = false ∧ Jx _ W3)) := (by rcases hcase with ⟨h1, h2, h3⟩ | ⟨h1, h2⟩; exact ⟨true, h1, .inl ⟨rfl, h2, h3⟩⟩; exact ⟨false, h1, .inr ⟨rfl, h2⟩⟩); have HR3 := hide hr2; clear hr2 hcase))
          all_goals
            rcases HR3.out with ⟨rfl, hJ4, hk4⟩ | ⟨rfl, hJx4⟩
            · have HF := hide (show J (ptsU (xs.take k) ++ (List.range (j + 1)).map (ptB ((i : Int), (m : Int)))) W3 by rw [ptsB_snoc, ← List.append_assoc]; exact hJ4)
              have HB5 := hide ((HBi.out.trans (HB3.out.mono (Nat.le_trans hn₀ HSi.out))).trans hk4.1)
              have HS5 := hide (Nat.le_trans HSi.out (Nat.le_trans HB3.out.size hk4.1.size))
              have HX5 := hide (hk4.2 _ _ _ ((HB3.out.block _ (Array.getElem?_eq_some_iff.1 HXi.out).1).trans HXi.out))
              clear hJ4 hk4 HR3 hR hy
              gi_wp2
              go_roundw
              case rel => exact ⟨j + 1, by omega, by simp, HF, HB5, HS5, HX5⟩
              case measure => simp [intOf]; omega
            · have HJ5 := hide hJx4
              clear hJx4 HR3 hR hy
              gi_wp2
              refine bodyPost_ret (results_none rfl _ _ _) rfl ?_
              exact ⟨⟨_, rfl⟩, .inr ⟨_, trivial, HJ5.out⟩⟩
        · have hjz : ¬ (j : Int) < 8 * (m : Int) := by omega
          obtain rfl : j = 8 * m := by omega
          have HF := hide (show J (ptsU (xs.take (k + 1))) wr by rw [ptsU_snoc xs k _ HX.out]; simpa [ptsB] using HJi.out)
          gi_wp2
          exact ⟨⟨k + 1, by omega, by simp, HF, HBi, HSi⟩, by simp [intOf]; omega⟩
    · obtain rfl : k = len := by omega
      gi_wp2
      go_end0
      exact ⟨⟨_, rfl⟩, .inl ⟨_, (by rw [HL.out, List.take_length]), HJs.out⟩⟩
end Go.Proofs.Ytiaifphidcfddaa
