/-
  The stable sort of backends: rotate's contract.
-/
import Derived.Test.YtiaifphidcfddaaRot
set_option linter.unusedVariables false
set_option linter.unusedSimpArgs false
namespace Go.Proofs.Ytiaifphidcfddaa
open Go.RowKit Go.Shelf

set_option maxRecDepth 100000 in
set_option maxHeartbeats 8000000 in
theorem Rotate_calls (b n cap base a m e : Nat) (p u v q : List Bk) (f : Value) (w : World) (ho : Ow 2 bkc 56 base w (.slice (some ⟨b, 0, none⟩) n cap) (p ++ (u ++ (v ++ q)))) (hA : a = p.length) (hM : m = a + u.length) (hE : e = m + v.length) (hu : 0 < u.length) (hv : 0 < v.length) (hn : n ≤ 1048576) :
    Calls Try.prog 142 #[.slice (some ⟨b, 0, none⟩) n cap, .int .i64 (a : Int), .int .i64 (m : Int), .int .i64 (e : Int), f] w fun e' w' => e' = .returned (.tuple #[]) ∧
      Ow 2 bkc 56 base w' (.slice (some ⟨b, 0, none⟩) n cap) (p ++ (v ++ (u ++ q))) ∧ w.grownBy w' (some b) := by
  have hnl := ho.len_bk
  have hmn : e ≤ n := by rw [hnl]; simp; omega
  have ham : a ≤ m := by omega
  have hme : m ≤ e := by omega
  obtain ⟨i0, hi0⟩ : ∃ i0, i0 = u.length := ⟨_, rfl⟩
  obtain ⟨j0, hj0⟩ : ∃ j0, j0 = v.length := ⟨_, rfl⟩
  have hia : (m : Int) - (a : Int) = (i0 : Int) := by omega
  have hjb : (e : Int) - (m : Int) = (j0 : Int) := by omega
  have hi1 : 0 < i0 := by omega
  have hj1 : 0 < j0 := by omega
  have hi2 : i0 ≤ m := by omega
  have hj2 : m + j0 ≤ n := by omega
  have HO := hide ho
  have HI0 := hide hi0
  have HJ0 := hide hj0
  have HPM := hide (show p.length + i0 = m by omega)
  have HIA := hide (show IntKind.i64.wrap ((m : Int) - (a : Int)) = (i0 : Int) by rw [IntWalk.i64_in _ (by omega)]; omega)
  have HJB := hide (show IntKind.i64.wrap ((e : Int) - (m : Int)) = (j0 : Int) by rw [IntWalk.i64_in _ (by omega)]; omega)
  clear ho hi0 hj0 hnl hA hM hE hu hv
  go_enter Try.func142, Try.ntmps142
  go_wp2
  go_loopg [10, 11] (i0 + j0) (fun gg s10 s11 wr => ∃ (i j : Nat) (p' X Y q' : List Bk), 0 < i ∧ 0 < j ∧ i ≤ m ∧ m + j ≤ n ∧ i + j ≤ gg ∧ s10 = .int .i64 (i : Int) ∧ s11 = .int .i64 (j : Int) ∧ Hid (i = X.length) ∧ Hid (j = Y.length) ∧ Hid (p'.length + i = m) ∧ Hid (Ow 2 bkc 56 base wr (.slice (some ⟨b, 0, none⟩) n cap) (p' ++ (X ++ (Y ++ q')))) ∧ Hid (p' ++ (Y ++ (X ++ q')) = p ++ (v ++ (u ++ q))) ∧ Hid (w.grownBy wr (some b)))
  case atStart => exact ⟨i0, j0, p, u, v, q, hi1, hj1, hi2, hj2, Nat.le_refl _, rfl, rfl, HI0, HJ0, HPM, HO, (show Hid _ from rfl), World.grownBy.refl _ _⟩
  case round =>
    obtain ⟨i, j, p', X, Y, q', hip, hjp, him, hjn, hg, rfl, rfl, XL, YL, PL, OW, TG, GB⟩ := hrel
    by_cases hij : i = j
    · subst hij
      have hne : ((i : Int) != (i : Int)) = false := by simp
      obtain ⟨k, hk⟩ : ∃ k, k = m - i := ⟨_, rfl⟩
      have HK := hide (show (m : Int) - (i : Int) = (k : Int) by omega)
      have hkp := hide (show k = p'.length by have := PL.out; omega)
      have hcon := SwapRange_calls b n cap base k m i p' X [] Y q' f wr OW.out hkp.out XL.out YL.out (by have := PL.out; simp; omega) hn
      have HCON := hide hcon
      clear hcon hk
      go_wp2_with (go_at_call 150; rw [HK.out]; refine HCON.out.mono ?_; rintro e' w' ⟨rfl, ho2, hg2⟩)
      go_end0
      exact ⟨rfl, by rw [← TG.out]; simpa using ho2, grownBy_step GB.out hg2⟩
    · have hne : ((i : Int) != (j : Int)) = true := by rw [bne_iff_ne]; omega
      obtain ⟨k, hk⟩ : ∃ k, k = m - i := ⟨_, rfl⟩
      have HK := hide (show (m : Int) - (i : Int) = (k : Int) by omega)
      have hkp := hide (show k = p'.length by have := PL.out; omega)
      by_cases hgt : j < i
      · have hgz : (j : Int) < (i : Int) := by omega
        obtain ⟨X1, X2, hX, hX1⟩ : ∃ X1 X2, X = X1 ++ X2 ∧ X1.length = j := ⟨X.take j, X.drop j, (List.take_append_drop j X).symm, by rw [List.length_take]; have := XL.out; omega⟩
        subst hX
        have hxl := hide hX1
        have hx2 := hide (show i - j = X2.length by have := XL.out; rw [List.length_append] at this; omega)
        clear hX1
        have hcon := SwapRange_calls b n cap base k m j p' X1 X2 Y q' f wr (by simpa using OW.out) hkp.out hxl.out.symm YL.out (by have := PL.out; have := hx2.out; omega) hn
        have HCON := hide hcon
        clear hcon hk hij
        go_wp2_with (go_at_call 150; rw [HK.out]; refine HCON.out.mono ?_; rintro e' w' ⟨rfl, ho2, hg2⟩)
        have HO2 := hide ho2
        have HG2 := hide hg2
        clear ho2 hg2
        go_wp2
        go_roundg (i - j + j)
        case measure => omega
        case rel => exact ⟨i - j, j, p' ++ Y, X2, X1, q', by omega, hjp, by omega, hjn, Nat.le_refl _, congrArg (Value.int .i64) (by omega), rfl, hx2, (hide hxl.out.symm), (hide (by rw [List.length_append]; have := PL.out; have := YL.out; omega)), (hide (by simpa using HO2.out)), (hide (by rw [← TG.out]; simp)), grownBy_step GB.out HG2.out⟩
      · have hgz : ¬ (j : Int) < (i : Int) := by omega
        have hlt : i < j := by omega
        obtain ⟨d, hd⟩ : ∃ d, d = j - i := ⟨_, rfl⟩
        have HD := hide (show (m : Int) + (j : Int) - (i : Int) = ((m + d : Nat) : Int) by omega)
        obtain ⟨Y1, Y2, hY, hY1⟩ : ∃ Y1 Y2, Y = Y1 ++ Y2 ∧ Y1.length = d := ⟨Y.take d, Y.drop d, (List.take_append_drop d Y).symm, by rw [List.length_take]; have := YL.out; omega⟩
        subst hY
        have hyl := hide hY1
        have hyl2 := hide (show i = Y2.length by have := YL.out; rw [List.length_append] at this; omega)
        clear hY1
        have hcon := SwapRange_calls b n cap base k (m + d) i p' X Y1 Y2 q' f wr (by simpa using OW.out) hkp.out XL.out hyl2.out (by have := PL.out; have := hyl.out; omega) hn
        have HCON := hide hcon
        have hdj := hide (show (j : Int) - (i : Int) = (d : Int) by omega)
        have hd2 : 0 < d := by omega
        have hdm : d + i = j := by omega
        clear hcon hk hd hij
        go_wp2_with (go_at_call 150; rw [HK.out, HD.out]; refine HCON.out.mono ?_; rintro e' w' ⟨rfl, ho2, hg2⟩)
        have HO2 := hide ho2
        have HG2 := hide hg2
        clear ho2 hg2
        go_wp2
        go_roundg (i + d)
        case measure => omega
        case rel => exact ⟨i, d, p', Y2, Y1, X ++ q', hip, hd2, him, by omega, Nat.le_refl _, rfl, congrArg (Value.int .i64) (by omega), hyl2, (hide hyl.out.symm), PL, (hide (by simpa using HO2.out)), (hide (by rw [← TG.out]; simp)), grownBy_step GB.out HG2.out⟩
end Go.Proofs.Ytiaifphidcfddaa
