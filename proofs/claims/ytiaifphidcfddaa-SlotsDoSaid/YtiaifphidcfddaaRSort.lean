/-
  The reference's points: sort.
-/
import Derived.Test.YtiaifphidcfddaaRPts
set_option linter.unusedVariables false
set_option linter.unusedSimpArgs false
namespace Go.Proofs.Ytiaifphidcfddaa
open Go.RowKit Go.Shelf

theorem Rd.drop {α : Type} {k : Nat} {enc : α → List Value} {w : World} {b off n : Nat} {xs : List α} (h : Rd k enc w (some ⟨b, off, none⟩) n xs) (m : Nat) (hm : m ≤ n) : Rd k enc w (some ⟨b, off + m * k, none⟩) (n - m) (xs.drop m) := by
  obtain ⟨h1, h2, h3, h4⟩ := h
  refine ⟨by rw [List.length_drop]; omega, by omega, fun e => (by cases e), fun p hp h0 => ?_⟩
  cases hp
  obtain ⟨_, hlt, hc⟩ := h4 _ rfl (by omega)
  refine ⟨rfl, hlt, fun j x hx i u hu => ?_⟩
  rw [List.getElem?_drop] at hx
  have := hc (m + j) x hx i u hu
  rwa [show off + (m + j) * k + i = off + m * k + j * k + i from by rw [Nat.add_mul]; omega] at this

theorem Ow.form2 {α : Type} {k : Nat} {enc : α → List Value} {e : TypeId} {base : Nat} {w : World} {v : Value} {xs : List α} (h : Ow k enc e base w v xs) (hk : ∀ x, (enc x).length = k) : ∃ a cap, v = .slice a xs.length cap ∧ Rd k enc w a xs.length xs ∧ xs.length ≤ cap ∧ cap ≤ maxLen := by
  obtain ⟨a, cap, hv, hr, _⟩ := h.form hk
  rcases h.2 with ⟨hv2, hn⟩ | ⟨g, cap2, cur, hv2, _, _, hc, hm, _⟩
  · have hn0 : xs = [] := List.eq_nil_of_length_eq_zero hn
    subst hn0
    exact ⟨none, 0, hv2, Rd.nil _, Nat.zero_le _, Nat.zero_le _⟩
  · have e := hv.symm.trans hv2
    injection e with e1 e2 e3
    subst e1; subst e3
    exact ⟨_, _, hv2, hr, hc, hm⟩

/-- The points in order. -/
def srt (l : List Pt) : List Pt := l.mergeSort leP
theorem srt_len (l : List Pt) : (srt l).length = l.length := by simp [srt]
theorem srt_pw (l : List Pt) : (srt l).Pairwise (fun a b => leP a b = true) := List.pairwise_mergeSort leP_trans leP_total l
theorem srt_uniq {l s : List Pt} (h : s.Perm l) (hs : s.Pairwise (fun a b => leP a b = true)) : s = srt l :=
  List.Perm.eq_of_pairwise (fun a b _ _ h1 h2 => leP_anti a b h1 h2) hs (srt_pw l) (h.trans (List.mergeSort_perm l leP).symm)
theorem srt_short (l : List Pt) (h : l.length < 2) : srt l = l := by
  match l, h with
  | [], _ => simp [srt]
  | [a], _ => simp [srt]
  | a :: b :: r, h => simp at h; omega
theorem srt_split (l : List Pt) (h : Nat) : List.merge (srt (l.take h)) (srt (l.drop h)) leP = srt l := by
  refine srt_uniq ?_ (List.pairwise_merge leP_trans leP_total _ _ (srt_pw _) (srt_pw _))
  refine (List.merge_perm_append leP).trans (((List.mergeSort_perm _ _).append (List.mergeSort_perm _ _)).trans ?_)
  rw [List.take_append_drop]

attribute [local go_sem ↓] Go.wp_at_zero Go.wp_at_succ

set_option maxRecDepth 100000 in
set_option maxHeartbeats 4000000 in
theorem RSort_calls (N : Nat) : ∀ (a : Option Addr) (n cap : Nat) (l : List Pt) (w : World), n ≤ N → Rd 2 ptc w a n l → n ≤ cap → cap ≤ maxLen → n < 2147483648 →
    Calls Try.prog 92 #[.slice a n cap] w fun e w' => ∃ a' cap', e = .returned (.slice a' n cap') ∧ Rd 2 ptc w' a' n (srt l) ∧ n ≤ cap' ∧ cap' ≤ maxLen ∧ Below w.heap.size w w' := by
  induction N with
  | zero =>
    intro a n cap l w hN hr hc hm hb
    have h2 : (n : Int) < 2 := by omega
    have e := srt_short l (by have := hr.len; omega)
    rw [e]
    have HR := hide hr
    clear hr e
    go_enter Try.func92, Try.ntmps92
    go_wp2_with fail
    go_ret
    exact ⟨_, _, rfl, HR.out, hc, hm, Below.refl _ _⟩
  | succ N ih =>
    intro a n cap l w hN hr hc hm hb
    by_cases hs : n < 2
    · have h2 : (n : Int) < 2 := by omega
      have e := srt_short l (by have := hr.len; omega)
      rw [e]
      have HR := hide hr
      clear hr e
      go_enter Try.func92, Try.ntmps92
      go_wp2_with fail
      go_ret
      exact ⟨_, _, rfl, HR.out, hc, hm, Below.refl _ _⟩
    · obtain ⟨b, off, x, rfl, _⟩ := hr.at_ 0 (by omega)
      obtain ⟨q, hh⟩ : ∃ q, n / 2 = q := ⟨_, rfl⟩
      have hh1 : q ≤ N := by omega
      have hh2 : n - q ≤ N := by omega
      have hh3 : q ≤ n := by omega
      have hh4 : q < n := by omega
      have hq : (n : Int) / 2 = (q : Int) := by omega
      have hmc := hm
      unfold maxLen at hmc
      have S1 := fun (W : World) (hW : Below w.heap.size w W) => ih (some ⟨b, off, none⟩) q cap (l.take q) W hh1 ((hr.take q hh3).below hW) (by omega) hm (by omega)
      have S2 := fun (W : World) (hW : Below w.heap.size w W) => ih (some ⟨b, off + q * 2, none⟩) (n - q) (cap - q) (l.drop q) W hh2 ((hr.drop q hh3).below hW) (by omega) (by omega) (by omega)
      have HS1 := hide S1
      have HS2 := hide S2
      have hnh : q + (n - q) = n := by omega
      have HNH := hide hnh
      have HE := hide (srt_split l q)
      have HLN := hide hr.len
      clear hr ih S1 S2 hh hnh
      have hcast1 : (n : Int) - (q : Int) = ((n - q : Nat) : Int) := by omega
      have hcast2 : (cap : Int) - (q : Int) = ((cap - q : Nat) : Int) := by omega
      have hz1 : (0 : Int) ≤ (q : Int) := by omega
      have hz2 : (q : Int) ≤ (n : Int) := by omega
      have hz3 : (q : Int) ≤ (cap : Int) := by omega
      have hz4 : (n : Int) ≤ (cap : Int) := by omega
      have hcq : ¬ cap = q := by omega
      have hge : ¬ (n : Int) < 2 := by omega
      go_enter Try.func92, Try.ntmps92
      go_wp2_with fail
      go_region_held3 (fun w' => True) (go_keep)
        (first
          | (go_at_call 115; refine (RMerge_calls _ _ _ _ _ _ _ _ _ (R1.out.below HB2.out) R2.out (by omega)).mono ?_; rintro e w3 ⟨v, rfl, ho, hb3⟩; have HO := hide ho; have HB3 := hide hb3; clear ho hb3)
          | (go_at_call 92; (with_reducible refine (HS1.out _ ((Below.refl _ _).drew)).mono ?_); rintro e w1 ⟨a1, c1, rfl, r1, hc1, hm1, hb1⟩; have R1 := hide r1; have HB1 := hide (show Below w.heap.size w w1 from ((Below.refl _ _).drew).trans hb1); clear r1 hb1)
          | (go_at_call 92; (with_reducible refine (HS2.out _ HB1.out).mono ?_); rintro e w2 ⟨a2, c2, rfl, r2, hc2, hm2, hb2⟩; have R2 := hide r2; have HB2 := hide hb2; clear r2 hb2))
      go_wp2
      have ho := HO.out
      rw [HE.out] at ho
      obtain ⟨a3, c3, rfl, r3, hc3, hm3⟩ := ho.form2 ptc_len
      rw [srt_len, ← HLN.out] at r3 hc3 ⊢
      have R3 := hide r3
      have HC3 := hide hc3
      have HM3 := hide hm3
      clear ho HO r3 hc3 hm3
      go_ret
      exact ⟨_, _, rfl, R3.out, HC3.out, HM3.out, below_then (below_then HB1.out HB1.out.size HB2.out) (Nat.le_trans HB1.out.size HB2.out.size) HB3.out⟩
end Go.Proofs.Ytiaifphidcfddaa
