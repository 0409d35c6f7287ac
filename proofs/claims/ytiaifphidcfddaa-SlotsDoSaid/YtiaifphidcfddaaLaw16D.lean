/-
  SlotsDo's walk.
-/
import Derived.Test.YtiaifphidcfddaaRef16b
set_option linter.unusedVariables false
set_option linter.unusedSimpArgs false
namespace Go.Proofs.Ytiaifphidcfddaa
open Go.RowKit Go.Shelf

/-! ### told -/
set_option maxHeartbeats 1000000 in
theorem told_calls (w0 : World) (h : Nat) (a : Option Addr) (cap : Nat) (st : List Sl) (x : Ac) (w : World) (k : RAt w0 w h (.slice a st.length cap) st) (hh : h < w.heap.size) (hr : Rd 2 bkc w0 x.a x.n x.xs) (hB : Below w0.heap.size w0 w) :
    Calls Try.prog 19 #[.slice a st.length cap, .agg #[.int .i64 x.K, .int .i64 x.I, .slice x.a x.n x.cap]] w (TwoR w0 w h (doT st x) (doB st x)) := by
  obtain ⟨K, I, xa, xn, xc, xs⟩ := x
  simp only at hr
  have hb0 : Below w.heap.size w (w.alloc (.cells #[.int .i64 K, .int .i64 I, .slice xa xn xc] 33)) := (Below.refl _ _).alloc (Nat.le_refl _) _
  have HB0 := hide hb0
  have k0 := k.below hb0
  have hh0 : h < (w.alloc (.cells #[.int .i64 K, .int .i64 I, .slice xa xn xc] 33)).heap.size := by simp; omega
  have hB1 := below_then hB hB.size hb0
  have h8 : st.length ≤ 8 := by obtain ⟨_, _, _, _, _, _, h8, _⟩ := k; exact h8
  by_cases h0 : K = 0
  · have e1 : doB st ⟨K, I, xa, xn, xc, xs⟩ = isS st I := by unfold doB; simp [h0]
    have e2 : doT st ⟨K, I, xa, xn, xc, xs⟩ = setS st I .building := by unfold doT; simp [h0]
    rw [e1, e2]
    have HC := hide (RBegin_calls w0 h _ st I _ k0 hh0)
    subst h0
    clear k k0 hr hB hb0 e1 e2 hh0 hB1
    generalize setS st I .building = st' at HC ⊢
    generalize isS st I = q at HC ⊢
    obtain ⟨n, hn⟩ : ∃ n, st.length = n := ⟨_, rfl⟩
    rw [hn] at HC h8 ⊢
    clear hn
    go_enter Try.func19, Try.ntmps19
    go_wp2_with (go_at_call 46; refine HC.out.mono ?_; rintro e w' ⟨v', rfl, hr, hb⟩; have H1 := hide hr; have H2 := hide hb; clear hr hb)
    go_ret2
    exact ⟨_, rfl, H1.out, below_then HB0.out HB0.out.size H2.out⟩
  · have h0b : (K == 0) = false := by simpa using h0
    by_cases h1 : K = 1
    · have e1 : doB st ⟨K, I, xa, xn, xc, xs⟩ = fillS st I xs := by unfold doB; simp [h1]
      have e2 : doT st ⟨K, I, xa, xn, xc, xs⟩ = fillT st I xs := by unfold doT; simp [h1]
      rw [e1, e2]
      have HC := hide (RFill_calls w0 h _ st I xa xn xc xs _ k0 hh0 hr hB1)
      subst h1
      clear k k0 hr hB hb0 e1 e2 hh0 hB1 h0
      generalize fillT st I xs = st' at HC ⊢
      generalize fillS st I xs = q at HC ⊢
      obtain ⟨n, hn⟩ : ∃ n, st.length = n := ⟨_, rfl⟩
      rw [hn] at HC h8 ⊢
      clear hn
      go_enter Try.func19, Try.ntmps19
      go_wp2_with (go_at_call 47; refine HC.out.mono ?_; rintro e w' ⟨v', rfl, hr, hb⟩; have H1 := hide hr; have H2 := hide hb; clear hr hb)
      go_ret2
      exact ⟨_, rfl, H1.out, below_then HB0.out HB0.out.size H2.out⟩
    · have h1b : (K == 1) = false := by simpa using h1
      have e1 : doB st ⟨K, I, xa, xn, xc, xs⟩ = isS st I := by unfold doB; simp [h1]
      have e2 : doT st ⟨K, I, xa, xn, xc, xs⟩ = setS st I .spoilt := by unfold doT; simp [h0, h1]
      rw [e1, e2]
      have HC := hide (RSpoil_calls w0 h _ st I _ k0 hh0)
      clear k k0 hr hB hb0 e1 e2 hh0 hB1 h0 h1
      generalize setS st I .spoilt = st' at HC ⊢
      generalize isS st I = q at HC ⊢
      obtain ⟨n, hn⟩ : ∃ n, st.length = n := ⟨_, rfl⟩
      rw [hn] at HC h8 ⊢
      clear hn
      go_enter Try.func19, Try.ntmps19
      go_wp2_with (go_at_call 48; refine HC.out.mono ?_; rintro e w' ⟨v', rfl, hr, hb⟩; have H1 := hide hr; have H2 := hide hb; clear hr hb)
      go_ret2
      exact ⟨_, rfl, H1.out, below_then HB0.out HB0.out.size H2.out⟩

/-! ### New -/
theorem madeRs (m : Nat) : ∀ j i, j < m → i < 2 → (madeCells (Value.agg #[.int .i64 0, .slice none 0 0]).cells (m * 2))[j * 2 + i]? = (slotc ⟨0, none, 0, 0⟩)[i]? := by
  intro j i hj hi
  have h1 : j * 2 + i < m * 2 := by omega
  have hsz : (madeCells (Value.agg #[.int .i64 0, .slice none 0 0]).cells (m * 2)).size = m * 2 := by simp [madeCells]
  have hget : (madeCells (Value.agg #[.int .i64 0, .slice none 0 0]).cells (m * 2))[j * 2 + i]? = some ((Value.agg #[.int .i64 0, .slice none 0 0]).cells[(j * 2 + i) % 2]?.getD default) := by
    simp [madeCells, Value.cells, h1]
  rw [hget, show (j * 2 + i) % 2 = i from by omega]
  match i, hi with
  | 0, _ => rfl
  | 1, _ => rfl

set_option maxRecDepth 100000 in
theorem makeRs (k : Int) (m : Nat) (hk : k = (m : Int)) (hm : m ≤ 8) (w : World) : (Instr.makeSlice 28 (.int .i64 k) (.int .i64 k)).run Try.prog w = .ok (.slice (some ⟨w.heap.size, 0, none⟩) m m) (w.alloc (.cells (madeCells (Value.agg #[.int .i64 0, .slice none 0 0]).cells (m * 2)) 84)) := by
  subst hk
  obtain ⟨i, hi, hz, hsz, hb⟩ := info_parts (show (Try.prog.info? 84).map (fun i => (i.zero, i.size, i.bytes)) = some (some (.agg #[.int .i64 0, .slice none 0 0]), 2, 32) by kernel_rfl)
  have := run_makeSlice (P := Try.prog) (w := w) 28 84 i (.agg #[.int .i64 0, .slice none 0 0]) Try.underlying28 hi hz .i64 .i64 (m : Int) (m : Int) (by omega) (by omega) (by rw [hsz]; simp; omega) (by rw [hb]; omega) (by omega)
  rw [this]
  rw [Int.toNat_natCast, hsz]

set_option maxRecDepth 100000 in
set_option maxHeartbeats 1000000 in
theorem RNew_calls (w0 : World) (h : Nat) (n : Int) (w : World) (hh : h < w.heap.size) : Calls Try.prog 17 #[.int .i64 n] w fun e w' => ∃ v, e = .returned v ∧ RAt w0 w' h v (newS n) ∧ Below w.heap.size w w' := by
  obtain ⟨m, hcl⟩ : ∃ m, clS n = m := ⟨_, rfl⟩
  have hm : m ≤ 8 := by unfold clS at hcl; omega
  have hk : max 0 (min n 8) = (m : Int) := by unfold clS at hcl; omega
  have HF := hide (show RAt w0 (w.alloc (.cells (madeCells (Value.agg #[.int .i64 0, .slice none 0 0]).cells (m * 2)) 84)) h (.slice (some ⟨w.heap.size, 0, none⟩) m m) (newS n) from by
    unfold newS
    rw [hcl]
    refine ⟨_, m, List.replicate m ⟨0, none, 0, 0⟩, by rw [List.length_replicate], ⟨by simp, by rw [List.length_replicate]; unfold maxLen; omega, fun e => (by cases e), fun p hp _ => ?_⟩, fun q hq _ => by cases hq; exact hh, by rw [List.length_replicate]; exact hm, fun i s hi => ?_⟩
    · cases hp
      refine ⟨rfl, by simp, fun j x hx i u hu => ?_⟩
      rw [List.getElem?_replicate] at hx
      split at hx
      · cases hx
        have hi2 : i < 2 := by have := (List.getElem?_eq_some_iff.1 hu).1; exact this
        have := madeRs m j i ‹_› hi2
        rw [hu] at this
        simp only [World.cell?, World.alloc, Array.getElem?_push_size, Nat.zero_add]
        simpa using this
      · cases hx
    · rw [List.getElem?_replicate] at hi ⊢
      split at hi
      · cases hi
        rw [if_pos ‹_›]
        exact ⟨_, rfl, rfl⟩
      · cases hi)
  have HB := hide ((Below.refl w.heap.size w).alloc (Nat.le_refl _) (.cells (madeCells (Value.agg #[.int .i64 0, .slice none 0 0]).cells (m * 2)) 84))
  have hmk := makeRs (max 0 (min n 8)) m hk hm
  clear hcl hk hm
  generalize madeCells (Value.agg #[.int .i64 0, .slice none 0 0]).cells (m * 2) = r at hmk HF HB
  generalize newS n = st at HF ⊢
  go_enter Try.func17, Try.ntmps17
  go_wp2
  go_ret
  exact ⟨_, rfl, HF.out, HB.out⟩

/-! ### The law -/
set_option maxRecDepth 100000 in
theorem SlotsDo_far (al : Option Addr) (ln lc : Nat) (n i id hh : Int) (l : List Ac) (w : World) (hr : Rd 3 actc w al ln l) (hA : AcR w l) (hfar : fewB l = false) :
    Calls Try.prog 3 #[.int .i64 n, .slice al ln lc, .int .i64 i, .int .i64 id, .int .u64 hh] w fun e w' => e = .returned (.bool true) ∧ Below w.heap.size w w' := by
  have HR := hide hr
  have HA := hide hA
  have HF := hide hfar
  clear hr hA hfar
  go_enter Try.func3, Try.ntmps3
  go_wp2_with fail
  refine (works16_calls _).mono ?_
  rintro e w1 ⟨rfl, hb⟩
  have HB := hide hb
  have HR1 := hide (HR.out.below hb)
  have HA1 := hide (HA.out.below hb)
  clear hb
  go_wp2_with fail
  refine (few_calls al ln lc l _ HR1.out HA1.out).mono ?_
  rintro e w2 ⟨he, rfl⟩
  rw [HF.out] at he
  subst he
  go_wp2
  go_ret
  exact ⟨rfl, HB.out⟩

theorem RAt.slice {w0 w : World} {h : Nat} {v : Value} {st : List Sl} (k : RAt w0 w h v st) : ∃ a cap, v = .slice a st.length cap := by
  obtain ⟨a, cap, _, hv, _⟩ := k
  exact ⟨a, cap, hv⟩
theorem below_row2 {w w1 w2 : World} {h : Nat} (hb : Below w.heap.size w w1) (hg : w1.grownBy w2 (some h)) (hh : w.heap.size ≤ h) : Below w.heap.size w w2 := below_grown hb hb.size hg hh

set_option maxRecDepth 100000 in
set_option maxHeartbeats 8000000 in
theorem SlotsDo_near (al : Option Addr) (ln lc : Nat) (n i id hh : Int) (l : List Ac) (w : World) (hr : Rd 3 actc w al ln l) (hA : AcR w l) (hF : fewB l = true) :
    Calls Try.prog 3 #[.int .i64 n, .slice al ln lc, .int .i64 i, .int .i64 id, .int .u64 hh] w fun e w' => e = .returned (.bool true) ∧ Below w.heap.size w w' := by
  have hln := hr.le
  have HR := hide hr
  have HA := hide hA
  have HF := hide hF
  clear hr hA hF
  go_enter Try.func3, Try.ntmps3
  go_wp2_with fail
  refine (works16_calls _).mono ?_
  rintro e w1 ⟨rfl, hb⟩
  have B1 := hide hb
  have HR1 := hide (HR.out.below hb)
  have HA1 := hide (HA.out.below hb)
  clear hb
  go_wp2_with fail
  refine (few_calls al ln lc l _ HR1.out HA1.out).mono ?_
  rintro e w2 ⟨he, rfl⟩
  rw [HF.out] at he
  subst he
  go_wp2_with fail
  refine (New_calls n _).mono ?_
  rintro e w3 ⟨rfl, hs, hb⟩
  have S3 := hide hs
  have B3 := hide (below_then B1.out B1.out.size hb)
  have HZ := hide B1.out.size
  have HH3 := hide (show w2.heap.size < w3.heap.size from by obtain ⟨_, _, _, cur, h4, _⟩ := hs; exact (Array.getElem?_eq_some_iff.1 h4).1)
  clear hs hb HR1 HA1
  generalize w2.heap.size = h at S3 HZ HH3 ⊢
  go_wp2_with fail
  refine (RNew_calls w h n _ HH3.out).mono ?_
  rintro e w4 ⟨v, rfl, hra, hb⟩
  have S4 := hide (S3.out.below hb)
  have R4 := hide hra
  have B4 := hide (below_then B3.out B3.out.size hb)
  have HH4 := hide (Nat.lt_of_lt_of_le HH3.out hb.size)
  clear hra hb
  generalize newS n = st0 at S3 S4 R4
  go_wp2
  go_loopg [13, 14] ln (fun gg s13 s14 wr => ∃ (kk : Nat) (st : List Sl), kk ≤ ln ∧ ln - kk ≤ gg ∧ s14 = .int .i64 (kk : Int) ∧ Hid (SlAt wr (h + 1) h st) ∧ Hid (RAt w wr h s13 st) ∧ Hid (Below w.heap.size w wr) ∧ Hid (h < wr.heap.size))
  case atStart => exact ⟨0, st0, Nat.zero_le _, by omega, rfl, S4, R4, B4, HH4⟩
  case round =>
    obtain ⟨kk, st, hkk, hgg, rfl, SL, RA, BL, HL⟩ := hrel
    by_cases hlt : kk < ln
    · have hltz : (kk : Int) < (ln : Int) := by omega
      obtain ⟨b, off, x, ha, hx, hbl, hc1, hc2, hc3⟩ := HR.out.at_ac kk hlt
      have hxA := HA.out kk x hx
      have hx8 := fewB_at HF.out hx
      have hd1 := (BL.out.cell (p := ⟨b, off + kk * 3, none⟩) hbl).trans hc1
      have hd2 := (BL.out.cell (p := ⟨b, off + kk * 3 + 1, none⟩) hbl).trans hc2
      have hd3 := (BL.out.cell (p := ⟨b, off + kk * 3 + 2, none⟩) hbl).trans hc3
      obtain ⟨ra, rc, hv⟩ := RA.out.slice
      obtain rfl := hv
      subst ha
      obtain ⟨q, hq⟩ : ∃ q, doB st x = q := ⟨_, rfl⟩
      obtain ⟨st5, hst5⟩ : ∃ st', doT st x = st' := ⟨_, rfl⟩
      have hdo := do_calls _ _ st x wr SL.out (hxA.1.below BL.out) hxA.2 hx8
      rw [hq, hst5] at hdo
      have HDO := hide hdo
      have HTL := hide (fun (W : World) (k : RAt w W h (.slice ra st.length rc) st) (hw : h < W.heap.size) (hb : Below w.heap.size w W) => told_calls w h ra rc st x W k hw hxA.1 hb)
      rw [hq, hst5] at HTL
      have HC := hide (And.intro hc1 (And.intro hc2 hc3))
      have HBL := hide hbl
      clear hdo hxA hx8 hx hq hst5 hc1 hc2 hc3 hbl
      obtain ⟨ml, hml⟩ : ∃ ml, st.length = ml := ⟨_, rfl⟩
      have HML := hide hml
      rw [hml] at HTL RA ⊢
      clear hml
      go_wp2_with fail
      refine HDO.out.mono ?_
      rintro e w5 ⟨rfl, hs, hg⟩
      have S5 := hide hs
      have B5 := hide (below_row2 BL.out hg HZ.out)
      have RA5 := hide (RA.out.row hg)
      have HH5 := hide (Nat.lt_of_lt_of_le HL.out hg.size)
      have he1 := (B5.out.cell (p := ⟨b, off + kk * 3, none⟩) HBL.out).trans HC.out.1
      have he2 := (B5.out.cell (p := ⟨b, off + kk * 3 + 1, none⟩) HBL.out).trans HC.out.2.1
      have he3 := (B5.out.cell (p := ⟨b, off + kk * 3 + 2, none⟩) HBL.out).trans HC.out.2.2
      clear hs hg hd1 hd2 hd3
      go_wp2_with fail
      refine (HTL.out _ RA5.out HH5.out B5.out).mono ?_
      rintro e w6 ⟨v6, rfl, hr6, hb6⟩
      have S6 := hide (S5.out.below hb6)
      have B6 := hide (below_then B5.out B5.out.size hb6)
      have HH6 := hide (Nat.lt_of_lt_of_le HH5.out hb6.size)
      obtain ⟨ra6, rc6, rfl⟩ := hr6.slice
      have RA6 := hide hr6
      clear hr6 hb6 he1 he2 he3
      obtain ⟨m6, hm6⟩ : ∃ m6, st5.length = m6 := ⟨_, rfl⟩
      have HM6 := hide hm6
      rw [hm6] at RA6 ⊢
      clear hm6
      obtain ⟨pu, hpu⟩ : ∃ u, pickS st5 i hh = u := ⟨_, rfl⟩
      obtain ⟨hu, hhu⟩ : ∃ u, hasS st5 i id = u := ⟨_, rfl⟩
      obtain ⟨su, hsu⟩ : ∃ u, sizeS st5 i = u := ⟨_, rfl⟩
      have HPU := hide hpu
      have HHU := hide hhu
      have HSU := hide hsu
      clear hpu hhu hsu
      obtain ⟨p1, p2⟩ := pu
      obtain ⟨h1, h2⟩ := hu
      obtain ⟨s1, s2⟩ := su
      go_wp2_with fail
      refine (Pick_calls _ _ _ i hh _ S6.out).mono ?_
      rintro e w7 ⟨he, hb⟩
      rw [HPU.out] at he
      subst he
      have S7 := hide (S6.out.below hb)
      have RA7 := hide (RA6.out.below hb)
      have B7 := hide (below_then B6.out B6.out.size hb)
      have HH7 := hide (Nat.lt_of_lt_of_le HH6.out hb.size)
      clear hb
      go_wp2_with fail
      refine ((show Calls _ _ _ _ _ from by have hq := RPick_calls16 w h ra6 rc6 st5 i hh w7 (by rw [HM6.out]; exact RA7.out) B7.out; rw [HM6.out] at hq; exact hq)).mono ?_
      rintro e w8 ⟨he, hb⟩
      rw [HPU.out] at he
      subst he
      have S8 := hide (S7.out.below hb)
      have RA8 := hide (RA7.out.below hb)
      have B8 := hide (below_then B7.out B7.out.size hb)
      have HH8 := hide (Nat.lt_of_lt_of_le HH7.out hb.size)
      clear hb
      go_wp2_with fail
      refine (Has_calls _ _ _ i id _ S8.out).mono ?_
      rintro e w9 ⟨he, hb⟩
      rw [HHU.out] at he
      subst he
      have S9 := hide (S8.out.below hb)
      have RA9 := hide (RA8.out.below hb)
      have B9 := hide (below_then B8.out B8.out.size hb)
      have HH9 := hide (Nat.lt_of_lt_of_le HH8.out hb.size)
      clear hb
      go_wp2_with fail
      refine ((show Calls _ _ _ _ _ from by have hq := RHas_calls16 w h ra6 rc6 st5 i id w9 (by rw [HM6.out]; exact RA9.out) B9.out; rw [HM6.out] at hq; exact hq)).mono ?_
      rintro e w10 ⟨he, hb⟩
      rw [HHU.out] at he
      subst he
      have S10 := hide (S9.out.below hb)
      have RA10 := hide (RA9.out.below hb)
      have B10 := hide (below_then B9.out B9.out.size hb)
      have HH10 := hide (Nat.lt_of_lt_of_le HH9.out hb.size)
      clear hb
      go_wp2_with fail
      refine (Size_calls _ _ _ i _ S10.out).mono ?_
      rintro e w11 ⟨he, hb⟩
      rw [HSU.out] at he
      subst he
      have S11 := hide (S10.out.below hb)
      have RA11 := hide (RA10.out.below hb)
      have B11 := hide (below_then B10.out B10.out.size hb)
      have HH11 := hide (Nat.lt_of_lt_of_le HH10.out hb.size)
      clear hb
      go_wp2_with fail
      refine ((show Calls _ _ _ _ _ from by have hq := RSize_calls16 w h ra6 rc6 st5 i w11 (by rw [HM6.out]; exact RA11.out) B11.out; rw [HM6.out] at hq; exact hq)).mono ?_
      rintro e w12 ⟨he, hb⟩
      rw [HSU.out] at he
      subst he
      have S12 := hide (S11.out.below hb)
      have RA12 := hide (RA11.out.below hb)
      have B12 := hide (below_then B11.out B11.out.size hb)
      have HH12 := hide (Nat.lt_of_lt_of_le HH11.out hb.size)
      clear hb
      go_wp2
      go_roundg (ln - (kk + 1))
      case measure => omega
      case rel => exact ⟨kk + 1, st5, by omega, by omega, by go_num, S12, RA12, B12, HH12⟩
    · have hltz : ¬ (kk : Int) < (ln : Int) := by omega
      go_wp2
      go_ret
      exact ⟨rfl, BL.out⟩

theorem SlotsDo_all (al : Option Addr) (ln lc : Nat) (n i id hh : Int) (l : List Ac) (w : World) (hr : Rd 3 actc w al ln l) (hA : AcR w l) :
    Calls Try.prog 3 #[.int .i64 n, .slice al ln lc, .int .i64 i, .int .i64 id, .int .u64 hh] w fun e w' => e = .returned (.bool true) ∧ Below w.heap.size w w' := by
  cases hf : fewB l with
  | false => exact SlotsDo_far al ln lc n i id hh l w hr hA hf
  | true => exact SlotsDo_near al ln lc n i id hh l w hr hA hf
end Go.Proofs.Ytiaifphidcfddaa
