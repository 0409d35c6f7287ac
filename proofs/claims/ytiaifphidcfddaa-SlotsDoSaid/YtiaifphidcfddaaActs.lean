/-
  Acts on slots: how they read; few, do.
-/
import Derived.Test.YtiaifphidcfddaaWorks16
set_option linter.unusedVariables false
set_option linter.unusedSimpArgs false
namespace Go.Proofs.Ytiaifphidcfddaa
open Go.RowKit Go.Shelf

/-- Something that is done. -/
structure Ac where
  K : Int
  I : Int
  a : Option Addr
  n : Nat
  cap : Nat
  xs : List Bk
deriving Inhabited
def actc (x : Ac) : List Value := [.int .i64 x.K, .int .i64 x.I, .slice x.a x.n x.cap]
theorem actc_len (x : Ac) : (actc x).length = 3 := rfl
/-- Their pools. -/
def AcR (w : World) (l : List Ac) : Prop := ∀ (j : Nat) x, l[j]? = some x → Rd 2 bkc w x.a x.n x.xs ∧ Wf x.xs
theorem AcR.below {w W : World} {l : List Ac} (h : AcR w l) (hb : Below w.heap.size w W) : AcR W l := fun j x hx => ⟨(h j x hx).1.below hb, (h j x hx).2⟩

theorem Rd.at_ac {w : World} {a : Option Addr} {n : Nat} {l : List Ac} (h : Rd 3 actc w a n l) (j : Nat) (hj : j < n) :
    ∃ b off x, a = some ⟨b, off, none⟩ ∧ l[j]? = some x ∧ b < w.heap.size ∧ w.cell? ⟨b, off + j * 3, none⟩ = some (.int .i64 x.K) ∧ w.cell? ⟨b, off + j * 3 + 1, none⟩ = some (.int .i64 x.I) ∧ w.cell? ⟨b, off + j * 3 + 2, none⟩ = some (.slice x.a x.n x.cap) := by
  obtain ⟨b, off, x, ha, hx, hb, hc⟩ := h.at_ j hj
  exact ⟨b, off, x, ha, hx, hb, hc 0 _ rfl, hc 1 _ rfl, hc 2 _ rfl⟩

/-- Are acts so few, and so small? -/
def fewB (l : List Ac) : Bool := decide (l.length ≤ 30) && l.all (fun x => decide (x.n ≤ 8))
theorem fewB_no {l : List Ac} {k : Nat} {x : Ac} (hx : l[k]? = some x) (h : 8 < x.n) : fewB l = false := by
  unfold fewB
  rw [Bool.and_eq_false_iff, List.all_eq_false]
  exact .inr ⟨x, List.mem_of_getElem? hx, by simpa using h⟩
theorem fewB_yes {l : List Ac} (h : l.length ≤ 30) (A : ∀ (j : Nat) x, j < l.length → l[j]? = some x → x.n ≤ 8) : fewB l = true := by
  unfold fewB
  rw [Bool.and_eq_true, List.all_eq_true]
  refine ⟨by simpa using h, fun x hx => ?_⟩
  obtain ⟨j, hj⟩ := List.getElem?_of_mem hx
  simpa using A j x (List.getElem?_eq_some_iff.1 hj).1 hj
theorem fewB_len {l : List Ac} (h : fewB l = true) : l.length ≤ 30 := by
  unfold fewB at h
  rw [Bool.and_eq_true] at h
  exact of_decide_eq_true h.1
theorem fewB_at {l : List Ac} (h : fewB l = true) {k : Nat} {x : Ac} (hx : l[k]? = some x) : x.n ≤ 8 := by
  unfold fewB at h
  rw [Bool.and_eq_true, List.all_eq_true] at h
  exact of_decide_eq_true (h.2 x (List.mem_of_getElem? hx))

set_option maxHeartbeats 1000000 in
theorem few_calls (a : Option Addr) (n cap : Nat) (l : List Ac) (w : World) (hr : Rd 3 actc w a n l) (hA : AcR w l) :
    Calls Try.prog 15 #[.slice a n cap] w fun e w' => e = .returned (.bool (fewB l)) ∧ w' = w := by
  have hn := hr.le
  have HL := hide hr.len
  have HR := hide hr
  have HA := hide hA
  clear hr hA
  by_cases h30 : 30 < n
  · have hz : (30 : Int) < (n : Int) := by omega
    have HF := hide (show fewB l = false by unfold fewB; rw [Bool.and_eq_false_iff]; left; have := HL.out; simp; omega)
    go_enter Try.func15, Try.ntmps15
    go_wp2
    go_ret
    exact ⟨by rw [HF.out]; rfl, rfl⟩
  · have hz : ¬ (30 : Int) < (n : Int) := by omega
    go_enter Try.func15, Try.ntmps15
    go_wp2
    go_loopg [3] n (fun gg s3 wr => ∃ kk : Nat, kk ≤ n ∧ n - kk ≤ gg ∧ s3 = .int .i64 (kk : Int) ∧ Hid (wr = w) ∧ Hid (∀ (j : Nat) x, j < kk → l[j]? = some x → x.n ≤ 8))
    case atStart => exact ⟨0, Nat.zero_le _, by omega, rfl, (hide rfl), fun j x hj => absurd hj (Nat.not_lt_zero _)⟩
    case round =>
      obtain ⟨kk, hkk, hg, rfl, BW, A⟩ := hrel
      obtain rfl : w = wr := BW.out.symm
      by_cases hlt : kk < n
      · have hltz : (kk : Int) < (n : Int) := by omega
        obtain ⟨b, off, x, ha, hx, hb, hc1, hc2, hc3⟩ := HR.out.at_ac kk hlt
        have hxn := (HA.out kk x hx).1.le
        have HX := hide hx
        clear hx hc1 hc2
        subst ha
        obtain ⟨xk, xi, xa, xn, xc, xxs⟩ := x
        simp only at hc3 hxn
        by_cases h8 : 8 < xn
        · have h8z : (8 : Int) < (xn : Int) := by omega
          have HF := hide (fewB_no HX.out h8)
          go_wp2
          go_ret
          exact ⟨by rw [HF.out]; rfl, rfl⟩
        · have h8z : ¬ (8 : Int) < (xn : Int) := by omega
          have H8 := hide (show xn ≤ 8 by omega)
          go_wp2
          go_roundg (n - (kk + 1))
          case measure => omega
          case rel =>
            refine ⟨kk + 1, by omega, by omega, by go_num, (hide rfl), (show Hid _ from fun j x hj hxj => ?_)⟩
            by_cases e : j = kk
            · subst e
              rw [HX.out] at hxj
              cases hxj
              exact H8.out
            · exact A.out j x (by omega) hxj
      · have hltz : ¬ (kk : Int) < (n : Int) := by omega
        obtain rfl : kk = n := by omega
        have HF := hide (fewB_yes (l := l) (by have := HL.out; omega) (fun j x hj hx => A.out j x (by have := HL.out; omega) hx))
        go_wp2
        go_ret
        exact ⟨by rw [HF.out]; rfl, rfl⟩

/-! ### do -/
def doT (st : List Sl) (x : Ac) : List Sl := if x.K = 0 then setS st x.I .building else if x.K = 1 then fillT st x.I x.xs else setS st x.I .spoilt
def doB (st : List Sl) (x : Ac) : Bool := if x.K = 1 then fillS st x.I x.xs else isS st x.I
theorem doT_len (st : List Sl) (x : Ac) : (doT st x).length = st.length := by
  unfold doT
  split
  · exact setS_len _ _ _
  · split
    · exact fillT_len _ _ _
    · exact setS_len _ _ _

set_option maxHeartbeats 1000000 in
theorem do_calls (g h : Nat) (st : List Sl) (x : Ac) (w : World) (k : SlAt w g h st) (hr : Rd 2 bkc w x.a x.n x.xs) (hw : Wf x.xs) (hbig : x.n ≤ 8) :
    Calls Try.prog 18 #[.pointer (some ⟨g, 0, none⟩), .agg #[.int .i64 x.K, .int .i64 x.I, .slice x.a x.n x.cap]] w fun e w' => e = .returned (.bool (doB st x)) ∧ SlAt w' g h (doT st x) ∧ w.grownBy w' (some h) := by
  obtain ⟨K, I, a, n, cap, xs⟩ := x
  simp only at hr hw hbig
  have hb0 : Below w.heap.size w (w.alloc (.cells #[.int .i64 K, .int .i64 I, .slice a n cap] 33)) := (Below.refl _ _).alloc (Nat.le_refl _) _
  have HB0 := hide hb0
  have k0 := k.below hb0
  by_cases h0 : K = 0
  · have e1 : doB st ⟨K, I, a, n, cap, xs⟩ = isS st I := by unfold doB; simp [h0]
    have e2 : doT st ⟨K, I, a, n, cap, xs⟩ = setS st I .building := by unfold doT; simp [h0]
    rw [e1, e2]
    have HC := hide (Begin_calls g h st I _ k0)
    subst h0
    clear k k0 hr hw hb0 e1 e2
    go_enter Try.func18, Try.ntmps18
    go_wp2_with (go_at_call 27; refine HC.out.mono ?_; rintro e w' ⟨rfl, hs, hg⟩; have H1 := hide hs; have H2 := hide hg; clear hs hg)
    go_ret
    exact ⟨rfl, H1.out, (grownBy_of_below HB0.out _).trans H2.out⟩
  · have h0b : (K == 0) = false := by simpa using h0
    by_cases h1 : K = 1
    · have e1 : doB st ⟨K, I, a, n, cap, xs⟩ = fillS st I xs := by unfold doB; simp [h1]
      have e2 : doT st ⟨K, I, a, n, cap, xs⟩ = fillT st I xs := by unfold doT; simp [h1]
      rw [e1, e2]
      have HC := hide (Fill_calls g h st I a n cap xs _ k0 (hr.below hb0) hw (by omega))
      subst h1
      clear k k0 hr hw hb0 e1 e2 h0
      go_enter Try.func18, Try.ntmps18
      go_wp2_with (go_at_call 28; refine HC.out.mono ?_; rintro e w' ⟨rfl, hs, hg⟩; have H1 := hide hs; have H2 := hide hg; clear hs hg)
      go_ret
      exact ⟨rfl, H1.out, (grownBy_of_below HB0.out _).trans H2.out⟩
    · have h1b : (K == 1) = false := by simpa using h1
      have e1 : doB st ⟨K, I, a, n, cap, xs⟩ = isS st I := by unfold doB; simp [h1]
      have e2 : doT st ⟨K, I, a, n, cap, xs⟩ = setS st I .spoilt := by unfold doT; simp [h0, h1]
      rw [e1, e2]
      have HC := hide (Spoil_calls g h st I _ k0)
      clear k k0 hr hw hb0 e1 e2 h0 h1
      go_enter Try.func18, Try.ntmps18
      go_wp2_with (go_at_call 30; refine HC.out.mono ?_; rintro e w' ⟨rfl, hs, hg⟩; have H1 := hide hs; have H2 := hide hg; clear hs hg)
      go_ret
      exact ⟨rfl, H1.out, (grownBy_of_below HB0.out _).trans H2.out⟩
end Go.Proofs.Ytiaifphidcfddaa
