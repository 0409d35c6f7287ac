/-
  PoolGone's walk.
-/
import Derived.Test.YtiaifphidcfddaaLaw8o
import Derived.IntWalk
set_option linter.unusedVariables false
set_option linter.unusedSimpArgs false
namespace Go.Proofs.Ytiaifphidcfddaa
open Go.RowKit Go.Shelf

theorem gone_self {xs : List Bk} {r : List Int} (h : GoneIs xs xs r) : r = [] := by
  cases r with
  | nil => rfl
  | cons y t =>
    have := (h.2 y).1 (by simp)
    rw [this.1] at this; exact absurd this.2 (by simp)

/-- What the loop over the gone keeps. -/
def InTill (r : List Int) (id : Int) (kk : Nat) (q : Bool) : Prop := q = true ↔ id ∈ r.take kk

theorem InTill.succ {r : List Int} {id x : Int} {kk : Nat} {q : Bool} (h : InTill r id kk q) (hx : r[kk]? = some x) : InTill r id (kk + 1) (q || x == id) := by
  unfold InTill at h ⊢
  rw [List.take_add_one, hx]
  simp only [Bool.or_eq_true, h, beq_iff_eq, List.mem_append, Option.toList_some, List.mem_singleton]
  exact or_congr Iff.rfl eq_comm

set_option maxRecDepth 100000 in
set_option maxHeartbeats 2000000 in
theorem PoolGone_near (a b : Option Addr) (n cap m cap2 : Nat) (id : Int) (xs ys : List Bk) (w : World) (hr : Rd 2 bkc w a n xs) (hr2 : Rd 2 bkc w b m ys) (hw : Wf xs) (hw2 : Wf ys) (hbig : n ≤ 60) (hbig2 : m ≤ 60) :
    Calls Try.prog 12 #[.slice a n cap, .slice b m cap2, .int .i64 id] w fun e w' => e = .returned (.bool true) ∧ Below w.heap.size w w' := by
  have hn : ¬ (60 : Int) < (n : Int) := by omega
  have hm : ¬ (60 : Int) < (m : Int) := by omega
  have hn2 := hr.le
  have hm2 := hr2.le
  obtain ⟨fx, hfx⟩ : ∃ fx, fx = find xs id := ⟨_, rfl⟩
  obtain ⟨fy, hfy⟩ : ∃ fy, fy = find ys id := ⟨_, rfl⟩
  have HX := hide (And.intro hfx (find_seen xs id))
  have HY := hide (And.intro hfy (find_seen ys id))
  have HR := hide hr
  have HR2 := hide hr2
  have HW := hide hw
  have HW2 := hide hw2
  clear hr hr2 hw hw2 hfx hfy
  go_enter Try.func12, Try.ntmps12
  go_wp2_with (first
    | (go_at_call 32; refine (works_calls _).mono ?_; rintro e w1 ⟨rfl, hb⟩; have HC := hide hb; clear hb)
    | (go_at_call 41; refine (Gone_calls sortInts _ _ _ _ _ _ xs ys _ (HR.out.below HC.out) (HR2.out.below HC.out) HW.out HW2.out (by omega)).mono ?_; rintro e w2 ⟨v, r, rfl, ho, hg, hb⟩; obtain ⟨a8, cap8, hv, hr8, _⟩ := ho.form i64c_len; subst hv; have HV := hide hr8; have HG := hide hg; replace HC := hide (below_then HC.out HC.out.size hb); clear ho hr8 hb hg))
  have hl8 := HV.out.le
  obtain ⟨L, hL⟩ : ∃ L, L = r.length := ⟨_, rfl⟩
  rw [← hL] at HV hl8 ⊢
  have HL := hide hL
  clear hL
  go_loopg [9, 10] L (fun gg s9 s10 wr => ∃ (kk : Nat) (q : Bool), kk ≤ L ∧ L - kk ≤ gg ∧ s9 = .bool q ∧ s10 = .int .i64 kk ∧ Hid (Below w2.heap.size w2 wr) ∧ Hid (InTill r id kk q))
  case atStart => exact ⟨0, false, Nat.zero_le _, by omega, rfl, rfl, Below.refl _ _, (by unfold Hid InTill; simp)⟩
  case round =>
    obtain ⟨kk, q, hkk, hg, rfl, rfl, BW, HI⟩ := hrel
    by_cases hlt : kk < L
    · have hltz : (kk : Int) < (L : Int) := by omega
      obtain ⟨b1, off, x, ha, hx, hb1, hc⟩ := (HV.out.below BW.out).at_i64 kk hlt
      have HX2 := hide hx
      clear hx
      subst ha
      have hnext := hide (HI.out.succ HX2.out)
      cases kk with
      | zero =>
        have h00 : decide ((0 : Int) < ((0 : Nat) : Int)) = false := by simp
        have hc0 : wr.cell? ⟨b1, off, none⟩ = some (.int .i64 x) := by simpa using hc
        cases q with
        | true =>
          go_wp2
          go_quiet (fail)
          go_wp2
          go_roundg (L - (0 + 1))
          case measure => omega
          case rel => exact ⟨0 + 1, true, by omega, by omega, rfl, by go_num, ⟨BW.out.os, BW.out.tape, BW.out.output, BW.out.size, BW.out.block⟩, hnext⟩
        | false =>
          go_wp2
          go_quiet (fail)
          go_wp2
          go_roundg (L - (0 + 1))
          case measure => omega
          case rel => exact ⟨0 + 1, _, by omega, by omega, rfl, by go_num, ⟨BW.out.os, BW.out.tape, BW.out.output, BW.out.size, BW.out.block⟩, hnext⟩
      | succ j =>
        obtain ⟨b2, off2, y, ha2, hy, hb2, hd⟩ := (HV.out.below BW.out).at_i64 j (by omega)
        cases ha2
        have hyx : ¬ x ≤ y := by
          have hp := HG.out.1
          rw [List.pairwise_iff_getElem] at hp
          obtain ⟨h1, e1⟩ := List.getElem?_eq_some_iff.1 hy
          obtain ⟨h2, e2⟩ := List.getElem?_eq_some_iff.1 HX2.out
          have := hp j (j + 1) h1 h2 (by omega)
          rw [e1, e2] at this; omega
        clear hy
        have hs1 : IntKind.i64.wrap ((j : Int) + 1 - 1) = (j : Int) := by rw [IntWalk.i64_in _ (by omega)]; omega
        have hs2 : (0 : Int) < (j : Int) + 1 := by omega
        have hs3 : (j : Int) < (L : Int) := by omega
        have hs4 : (j : Int) + 1 < (L : Int) := by omega
        cases q with
        | true =>
          go_wp2
          go_quiet (fail)
          go_wp2
          go_roundg (L - (j + 1 + 1))
          case measure => omega
          case rel => exact ⟨j + 1 + 1, true, by omega, by omega, rfl, by go_num, ⟨BW.out.os, BW.out.tape, BW.out.output, BW.out.size, BW.out.block⟩, hnext⟩
        | false =>
          go_wp2
          go_quiet (fail)
          go_wp2
          go_roundg (L - (j + 1 + 1))
          case measure => omega
          case rel => exact ⟨j + 1 + 1, _, by omega, by omega, rfl, by go_num, ⟨BW.out.os, BW.out.tape, BW.out.output, BW.out.size, BW.out.block⟩, hnext⟩
    · have hltz : ¬ (kk : Int) < (L : Int) := by omega
      have : kk = L := by omega
      subst this
      have hq : (0 ≤ fx ∧ fy < 0 ∧ q = true) ∨ (fx < 0 ∧ q = false) ∨ (0 ≤ fx ∧ 0 ≤ fy ∧ q = false) := by
        have h1 := HI.out
        unfold InTill at h1
        rw [HL.out, List.take_length, HG.out.2 id, ← HX.out.2, ← HX.out.1] at h1
        have h2 := HY.out.2
        rw [← HY.out.1] at h2
        by_cases g1 : 0 ≤ fx
        · by_cases g2 : 0 ≤ fy
          · refine .inr (.inr ⟨g1, g2, ?_⟩)
            rw [h2.1 g2] at h1
            simpa using h1
          · have g3 : seen ys id = false := by
              cases hs : seen ys id with
              | false => rfl
              | true => exact absurd (h2.2 hs) g2
            exact .inl ⟨g1, by omega, h1.2 ⟨g1, g3⟩⟩
        · refine .inr (.inl ⟨by omega, ?_⟩)
          cases q with
          | false => rfl
          | true => exact absurd (h1.1 rfl).1 g1
      replace HC := hide (below_then HC.out HC.out.size BW.out)
      rcases hq with ⟨h1, h2, rfl⟩ | ⟨h1, rfl⟩ | ⟨h1, h2, rfl⟩
      all_goals
        go_wp2_with (first
          | (go_at_call 29; (with_reducible show Calls _ _ #[.slice a _ _, _] _ _); refine (Find_calls _ _ _ _ _ _ (HR.out.below HC.out)).mono ?_; rintro e w4 ⟨rfl, hb⟩; rw [← HX.out.1]; replace HC := hide (below_then HC.out HC.out.size hb); clear hb)
          | (go_at_call 29; refine (Find_calls _ _ _ _ _ _ (HR2.out.below HC.out)).mono ?_; rintro e w4 ⟨rfl, hb⟩; rw [← HY.out.1]; replace HC := hide (below_then HC.out HC.out.size hb); clear hb)
          | (go_at_call 41; refine (Gone_calls sortInts _ _ _ _ _ _ xs xs _ (HR.out.below HC.out) (HR.out.below HC.out) HW.out HW.out (by omega)).mono ?_; rintro e w5 ⟨v, r2, rfl, ho, hg, hb⟩; obtain rfl := gone_self hg; obtain ⟨a9, cap9, hv, hr9, _⟩ := ho.form i64c_len; subst hv; replace HC := hide (below_then HC.out HC.out.size hb); clear ho hr9 hb hg))
        go_ret
        first
          | exact ⟨rfl, HC.out⟩
          | exact ⟨congrArg (fun b => Ending.returned (Value.bool b)) (show (!decide (fy < 0)) = true by simp; omega), HC.out⟩

theorem PoolGone_far (a b : Option Addr) (n cap m cap2 : Nat) (id : Int) (w : World) (hn : n ≤ maxLen) (hm : m ≤ maxLen) (hbig : ¬ (n ≤ 60 ∧ m ≤ 60)) :
    Calls Try.prog 12 #[.slice a n cap, .slice b m cap2, .int .i64 id] w fun e w' => e = .returned (.bool true) ∧ Below w.heap.size w w' := by
  have h1 : (60 : Int) < (n : Int) ∨ (¬ (60 : Int) < (n : Int) ∧ (60 : Int) < (m : Int)) := by omega
  unfold maxLen at hn hm
  rcases h1 with h1 | ⟨h1, h2⟩
  all_goals
    go_enter Try.func12, Try.ntmps12
    go_wp2_with (go_at_call 32; refine (works_calls _).mono ?_; rintro e w' ⟨rfl, hb⟩)
    go_ret
    exact ⟨rfl, hb⟩

theorem PoolGone_all (a b : Option Addr) (n cap m cap2 : Nat) (id : Int) (xs ys : List Bk) (w : World) (hr : Rd 2 bkc w a n xs) (hr2 : Rd 2 bkc w b m ys) (hw : Wf xs) (hw2 : Wf ys) :
    Calls Try.prog 12 #[.slice a n cap, .slice b m cap2, .int .i64 id] w fun e w' => e = .returned (.bool true) ∧ Below w.heap.size w w' := by
  by_cases h : n ≤ 60 ∧ m ≤ 60
  · exact PoolGone_near a b n cap m cap2 id xs ys w hr hr2 hw hw2 h.1 h.2
  · exact PoolGone_far a b n cap m cap2 id w hr.2.1 hr2.2.1 h
end Go.Proofs.Ytiaifphidcfddaa
