/-
  SlotsReady's walk.
-/
import Derived.Test.YtiaifphidcfddaaActs
import Derived.Test.YtiaifphidcfddaaLaw16A
set_option linter.unusedVariables false
set_option linter.unusedSimpArgs false
namespace Go.Proofs.Ytiaifphidcfddaa
open Go.RowKit Go.Shelf

/-- Slot i is s. -/
def AtS (st : List Sl) (i : Int) (s : Sl) : Prop := isS st i = true ∧ st[i.toNat]? = some s
theorem isS_len {st st' : List Sl} (h : st'.length = st.length) (i : Int) : isS st' i = isS st i := by unfold isS; rw [h]
theorem setS_at {st : List Sl} {i : Int} (h : isS st i = true) (s : Sl) : AtS (setS st i s) i s := by
  refine ⟨by rw [isS_len (setS_len _ _ _), h], ?_⟩
  obtain ⟨k, rfl, hk⟩ := isS_true h
  unfold setS
  rw [h, if_pos rfl, Int.toNat_natCast, List.getElem?_set_self hk]
theorem setS_other {st : List Sl} {i j : Int} {s t : Sl} (hi : AtS st i s) (hj : j ≠ i) : AtS (setS st j t) i s := by
  refine ⟨by rw [isS_len (setS_len _ _ _), hi.1], ?_⟩
  unfold setS
  split
  · rename_i h
    obtain ⟨k, rfl, hk⟩ := isS_true h
    obtain ⟨l, rfl, hl⟩ := isS_true hi.1
    rw [Int.toNat_natCast, List.getElem?_set_ne (by omega)]
    exact hi.2
  · exact hi.2
theorem fillT_other {st : List Sl} {i j : Int} {s : Sl} {xs : List Bk} (hi : AtS st i s) (hj : j ≠ i) : AtS (fillT st j xs) i s := by
  unfold fillT
  split
  · rename_i h
    have hs : isS st j = true := by unfold fillS at h; rw [Bool.and_eq_true] at h; exact h.1
    have := setS_other (t := .ready xs) hi hj
    unfold setS at this
    rwa [hs, if_pos rfl] at this
  · exact hi
theorem doT_other {st : List Sl} {i : Int} {s : Sl} {x : Ac} (hi : AtS st i s) (hj : x.I ≠ i) : AtS (doT st x) i s := by
  unfold doT
  split
  · exact setS_other hi hj
  · split
    · exact fillT_other hi hj
    · exact setS_other hi hj
theorem AtS.pick {st : List Sl} {i : Int} {s : Sl} (h : AtS st i s) (hh : Int) : pickS st i hh = (match s with | .ready p => (succP (ofP p) hh, true) | _ => (0, false)) := by
  unfold pickS rdyS
  rw [h.1, if_pos rfl, h.2]
  cases s <;> rfl
theorem AtS.size {st : List Sl} {i : Int} {s : Sl} (h : AtS st i s) : sizeS st i = (match s with | .ready p => ((p.length : Int), true) | _ => (0, false)) := by
  unfold sizeS rdyS
  rw [h.1, if_pos rfl, h.2]
  cases s <;> rfl
theorem AtS.fill {st : List Sl} {i : Int} {s : Sl} (h : AtS st i s) (xs : List Bk) : fillS st i xs = (decide (check xs = 0) && match s with | .building => true | _ => false) := by
  unfold fillS bldS
  rw [h.1, h.2, Bool.true_and]
  cases s <;> rfl
theorem fillT_at {st : List Sl} {i : Int} {xs : List Bk} (h : AtS st i .building) (hk : check xs = 0) : AtS (fillT st i xs) i (.ready xs) := by
  have hf : fillS st i xs = true := by rw [h.fill, hk]; rfl
  have := setS_at h.1 (.ready xs)
  unfold fillT
  rw [hf, if_pos rfl]
  unfold setS at this
  rwa [h.1, if_pos rfl] at this
theorem fillT_same {st : List Sl} {i : Int} {xs : List Bk} (h : fillS st i xs = false) : fillT st i xs = st := by unfold fillT; rw [h]; rfl
theorem newS_is (n i : Int) (h0 : 0 ≤ i) (h1 : i < n) (h2 : i < 8) : isS (newS n) i = true := by
  unfold isS newS clS
  rw [List.length_replicate, Bool.and_eq_true, decide_eq_true_eq, decide_eq_true_eq]
  omega

set_option maxRecDepth 100000 in
theorem SlotsReady_far (al a : Option Addr) (ln lc m cap : Nat) (n i hh : Int) (l : List Ac) (w : World) (hr : Rd 3 actc w al ln l) (hA : AcR w l) (hm : (m : Int) ≤ 9223372036854775807) (hfar : fewB l = false ∨ (fewB l = true ∧ ((8 : Int) < (m : Int) ∨ (¬ (8 : Int) < (m : Int) ∧ (i < 0 ∨ (0 ≤ i ∧ (n ≤ i ∨ (i < n ∧ 8 ≤ i)))))))) :
    Calls Try.prog 6 #[.int .i64 n, .slice al ln lc, .int .i64 i, .slice a m cap, .int .u64 hh] w fun e w' => e = .returned (.bool true) ∧ Below w.heap.size w w' := by
  have HR := hide hr
  have HA := hide hA
  have hln := hr.le
  clear hr hA
  rcases hfar with h1 | ⟨h1, h2 | ⟨h2, h3 | ⟨h3, h4 | ⟨h4, h5⟩⟩⟩⟩
  all_goals
    have HF := hide h1
    clear h1
    go_enter Try.func6, Try.ntmps6
    go_wp2_with fail
    refine (works16_calls _).mono ?_
    rintro e w1 ⟨rfl, hb⟩
    have HB := hide hb
    have HR1 := hide (HR.out.below hb)
    have HA1 := hide (HA.out.below hb)
    clear hb
    go_wp2_with fail
    refine (few_calls al ln lc l _ HR1.out HA1.out).mono ?_
    rintro e w2 ⟨he, rfl⟩
    rw [HF.out] at he
    subst he
    go_wp2
    go_ret
    exact ⟨rfl, HB.out⟩

/-- What the rounds keep. -/
def Kept (w wr : World) (g h : Nat) (P : List Sl → Prop) : Prop := (∃ st, SlAt wr g h st ∧ P st) ∧ Below w.heap.size w wr
theorem Kept.below {w wr w' : World} {g h : Nat} {P : List Sl → Prop} (k : Kept w wr g h P) (hb : Below wr.heap.size wr w') : Kept w w' g h P := by
  obtain ⟨⟨st, h1, h2⟩, h3⟩ := k
  exact ⟨⟨st, h1.below hb, h2⟩, below_then h3 h3.size hb⟩
theorem below_row {w w1 w2 : World} {h : Nat} (hb : Below w.heap.size w w1) (hg : w1.grownBy w2 (some h)) (hh : w.heap.size ≤ h) : Below w.heap.size w w2 := below_grown hb hb.size hg hh

set_option maxRecDepth 100000 in
set_option maxHeartbeats 4000000 in
theorem SlotsReady_g (al a : Option Addr) (ln lc m cap : Nat) (n i hh : Int) (l : List Ac) (xs : List Bk) (w : World) (hr : Rd 3 actc w al ln l) (hA : AcR w l) (hr2 : Rd 2 bkc w a m xs) (hw : Wf xs) (hF : fewB l = true) (hm : ¬ (8 : Int) < (m : Int)) (hi0 : 0 ≤ i) (hin : i < n) (hi8 : i < 8) (hk : check xs = 0) :
    Calls Try.prog 6 #[.int .i64 n, .slice al ln lc, .int .i64 i, .slice a m cap, .int .u64 hh] w fun e w' => e = .returned (.bool true) ∧ Below w.heap.size w w' := by
  have hln := hr.le
  have hmn := hr2.le
  have HR := hide hr
  have HA := hide hA
  have HR2 := hide hr2
  have HW := hide hw
  have HF := hide hF
  have HK := hide hk
  have HL := hide hr2.len
  have HLL := hide hr.len
  have hmb : m < 4294967296 := by omega
  have HMB := hide (show m ≤ 65536 by omega)
  have HIS := hide (newS_is n i hi0 hin hi8)
  have hg1 : ¬ i < 0 := by omega
  have hg2 : ¬ n ≤ i := by omega
  have hg3 : ¬ 8 ≤ i := by omega
  clear hr hA hr2 hw hF hk
  go_enter Try.func6, Try.ntmps6
  go_wp2_with fail
  refine (works16_calls _).mono ?_
  rintro e w1 ⟨rfl, hb⟩
  have B1 := hide hb
  have HR1 := hide (HR.out.below hb)
  have HA1 := hide (HA.out.below hb)
  clear hb
  go_wp2_with fail
  refine (few_calls al ln lc l _ HR1.out HA1.out).mono ?_
  rintro e w2 ⟨he, rfl⟩
  rw [HF.out] at he
  subst he
  go_wp2_with fail
  refine (New_calls n _).mono ?_
  rintro e w3 ⟨rfl, hs, hb⟩
  have HZ := hide B1.out.size
  have K3 := hide (show Kept w w3 (w2.heap.size + 1) w2.heap.size (fun st => isS st i = true) from ⟨⟨_, hs, HIS.out⟩, below_then B1.out B1.out.size hb⟩)
  clear hs hb HR1 HA1
  generalize w2.heap.size = h at HZ K3 ⊢
  go_wp2
  go_loopg [13] ln (fun gg s13 wr => ∃ kk : Nat, kk ≤ ln ∧ ln - kk ≤ gg ∧ s13 = .int .i64 (kk : Int) ∧ Hid (Kept w wr (h + 1) h (fun st => isS st i = true)))
  case atStart => exact ⟨0, Nat.zero_le _, by omega, rfl, K3⟩
  case round =>
    obtain ⟨kk, hkk, hgg, rfl, KR⟩ := hrel
    by_cases hlt : kk < ln
    · have hltz : (kk : Int) < (ln : Int) := by omega
      obtain ⟨⟨st, hs, hp⟩, hb⟩ := KR.out
      obtain ⟨b, off, x, ha, hx, hbl, hc1, hc2, hc3⟩ := (HR.out.below hb).at_ac kk hlt
      obtain ⟨hxr, hxw⟩ := (HA.out.below hb) kk x hx
      have hx8 := fewB_at HF.out hx
      have HDO := hide (do_calls _ _ st x wr hs hxr hxw hx8)
      have HP := hide (show isS (doT st x) i = true by rw [isS_len (doT_len st x)]; exact hp)
      have HB := hide hb
      subst ha
      clear hs hp hb hx hxr hxw hx8
      go_wp2_with fail
      refine HDO.out.mono ?_
      rintro e w4 ⟨rfl, hs, hg⟩
      have K4 := hide (show Kept w w4 (h + 1) h (fun st => isS st i = true) from ⟨⟨_, hs, HP.out⟩, below_row HB.out hg HZ.out⟩)
      clear hs hg
      go_wp2
      go_roundg (ln - (kk + 1))
      case measure => omega
      case rel => exact ⟨kk + 1, by omega, by omega, by go_num, K4⟩
    · have hltz : ¬ (kk : Int) < (ln : Int) := by omega
      obtain rfl : kk = ln := by omega
      obtain ⟨⟨st, hs, hp⟩, hb⟩ := KR.out
      have S4 := hide hs
      have P4 := hide hp
      have B4 := hide hb
      clear hs hp hb
      -- Begin
      go_wp2_with fail
      refine (Begin_calls _ _ _ i _ S4.out).mono ?_
      rintro e w5 ⟨he, hs, hg⟩
      rw [P4.out] at he
      subst he
      have S5 := hide hs
      have B5 := hide (below_row B4.out hg HZ.out)
      have A5 := hide (setS_at P4.out .building)
      clear hs hg
      generalize setS st i .building = st5 at S5 A5
      -- Pick
      go_wp2_with fail
      refine (Pick_calls _ _ _ i hh _ S5.out).mono ?_
      rintro e w6 ⟨he, hb⟩
      rw [A5.out.pick] at he
      subst he
      have S6 := hide (S5.out.below hb)
      have B6 := hide (below_then B5.out B5.out.size hb)
      clear hb
      -- Fill
      go_wp2_with fail
      refine (Fill_calls _ _ _ i a m cap xs _ S6.out (HR2.out.below B6.out) HW.out hmb).mono ?_
      rintro e w7 ⟨he, hs, hg⟩
      rw [A5.out.fill, HK.out] at he
      subst he
      have S7 := hide hs
      have B7 := hide (below_row B6.out hg HZ.out)
      have A7 := hide (fillT_at A5.out HK.out)
      clear hs hg
      generalize fillT st5 i xs = st7 at S7 A7
      -- Fill again
      go_wp2_with fail
      refine (Fill_calls _ _ _ i a m cap xs _ S7.out (HR2.out.below B7.out) HW.out hmb).mono ?_
      rintro e w8 ⟨he, hs, hg⟩
      have hf8 : fillS st7 i xs = false := by rw [A7.out.fill, HK.out]; rfl
      rw [hf8] at he
      rw [fillT_same hf8] at hs
      subst he
      have K8 := hide (show Kept w w8 (h + 1) h (fun st => AtS st i (.ready xs)) from ⟨⟨_, hs, A7.out⟩, below_row B7.out hg HZ.out⟩)
      clear hs hg hf8
      go_wp2
      go_loopg [19] kk (fun gg s19 wr => ∃ jj : Nat, jj ≤ kk ∧ kk - jj ≤ gg ∧ s19 = .int .i64 (jj : Int) ∧ Hid (Kept w wr (h + 1) h (fun st => AtS st i (.ready xs))))
      case atStart => exact ⟨0, Nat.zero_le _, by omega, rfl, K8⟩
      case round =>
        obtain ⟨jj, hjj, hgj, rfl, KJ⟩ := hrel
        by_cases hlj : jj < kk
        · have hljz : (jj : Int) < (kk : Int) := by omega
          obtain ⟨⟨st9, hs, hp⟩, hb⟩ := KJ.out
          obtain ⟨b, off, x, ha, hx, hbl, hc1, hc2, hc3⟩ := (HR.out.below hb).at_ac jj hlj
          obtain ⟨hxr, hxw⟩ := (HA.out.below hb) jj x hx
          have hx8 := fewB_at HF.out hx
          have HDO := hide (do_calls _ _ st9 x _ hs hxr hxw hx8)
          have HB := hide hb
          have HP := hide hp
          subst ha
          clear hs hp hb hx hxr hxw hx8
          by_cases hxi : x.I = i
          · have hxib : (x.I != i) = false := by simpa using hxi
            clear hxi
            go_wp2
            go_roundg (kk - (jj + 1))
            case measure => omega
            case rel => exact ⟨jj + 1, by omega, by omega, by go_num, KJ⟩
          · have hxib : (x.I != i) = true := by simpa using hxi
            have HXI := hide hxi
            clear hxi
            go_wp2_with fail
            refine HDO.out.mono ?_
            rintro e w10 ⟨rfl, hs, hg⟩
            have K10 := hide (show Kept w w10 (h + 1) h (fun st => AtS st i (.ready xs)) from ⟨⟨_, hs, doT_other HP.out HXI.out⟩, below_row HB.out hg HZ.out⟩)
            clear hs hg
            go_wp2
            go_roundg (kk - (jj + 1))
            case measure => omega
            case rel => exact ⟨jj + 1, by omega, by omega, by go_num, K10⟩
        · have hljz : ¬ (jj : Int) < (kk : Int) := by omega
          obtain rfl : jj = kk := by omega
          obtain ⟨⟨st10, hs, hp⟩, hb⟩ := KJ.out
          have S10 := hide hs
          have A10 := hide hp
          have B10 := hide hb
          clear hs hp hb KJ KR K8 K3
          obtain ⟨to_, hto⟩ : ∃ t, succP (ofP xs) hh = t := ⟨_, rfl⟩
          have HTO := hide hto
          clear hto
          have hpk : pickS st10 i hh = (to_, true) := by rw [A10.out.pick]; show (succP (ofP xs) hh, true) = _; rw [HTO.out]
          have hsz : sizeS st10 i = ((m : Int), true) := by rw [A10.out.size]; show ((xs.length : Int), true) = _; rw [← HL.out]
          have HPK := hide hpk
          have HSZ := hide hsz
          clear hpk hsz
          go_wp2_with fail
          refine (Pick_calls _ _ _ i hh _ S10.out).mono ?_
          rintro e w11 ⟨he, hb⟩
          rw [HPK.out] at he
          subst he
          have S11 := hide (S10.out.below hb)
          have B11 := hide (below_then B10.out B10.out.size hb)
          clear hb
          go_wp2_with fail
          refine (Size_calls _ _ _ i _ S11.out).mono ?_
          rintro e w12 ⟨he, hb⟩
          rw [HSZ.out] at he
          subst he
          have S12 := hide (S11.out.below hb)
          have B12 := hide (below_then B11.out B11.out.size hb)
          clear hb
          go_wp2_with fail
          refine (Spoil_calls _ _ _ i _ S12.out).mono ?_
          rintro e w13 ⟨he, hs, hg⟩
          rw [A10.out.1] at he
          subst he
          have S13 := hide hs
          have A13 := hide (setS_at A10.out.1 .spoilt)
          have B13 := hide (below_row B12.out hg HZ.out)
          clear hs hg
          go_wp2_with fail
          refine (Pick_calls _ _ _ i hh _ S13.out).mono ?_
          rintro e w14 ⟨he, hb⟩
          rw [A13.out.pick] at he
          subst he
          have B14 := hide (below_then B13.out B13.out.size hb)
          clear hb
          go_wp2_with fail
          refine (Check_calls a m cap xs _ (HR2.out.below B14.out) HW.out hmb).mono ?_
          rintro e w15 ⟨he, hb⟩
          rw [HK.out] at he
          subst he
          have B15 := hide (below_then B14.out B14.out.size hb)
          clear hb
          go_wp2_with fail
          refine (RPick_calls a m cap xs hh _ (HR2.out.below B15.out) (vp_of_check HK.out) HMB.out).mono ?_
          rintro e w16 ⟨he, hb⟩
          rw [HTO.out] at he
          subst he
          have B16 := hide (below_then B15.out B15.out.size hb)
          clear hb
          go_wp2
          go_ret
          exact ⟨rfl, B16.out⟩

set_option maxRecDepth 100000 in
set_option maxHeartbeats 4000000 in
theorem SlotsReady_n (al a : Option Addr) (ln lc m cap : Nat) (n i hh : Int) (l : List Ac) (xs : List Bk) (w : World) (hr : Rd 3 actc w al ln l) (hA : AcR w l) (hr2 : Rd 2 bkc w a m xs) (hw : Wf xs) (hF : fewB l = true) (hm : ¬ (8 : Int) < (m : Int)) (hi0 : 0 ≤ i) (hin : i < n) (hi8 : i < 8) (hk : check xs = 10) :
    Calls Try.prog 6 #[.int .i64 n, .slice al ln lc, .int .i64 i, .slice a m cap, .int .u64 hh] w fun e w' => e = .returned (.bool true) ∧ Below w.heap.size w w' := by
  have hln := hr.le
  have hmn := hr2.le
  have HR := hide hr
  have HA := hide hA
  have HR2 := hide hr2
  have HW := hide hw
  have HF := hide hF
  have HK := hide hk
  have HL := hide hr2.len
  have HLL := hide hr.len
  have hmb : m < 4294967296 := by omega
  have HMB := hide (show m ≤ 65536 by omega)
  have HIS := hide (newS_is n i hi0 hin hi8)
  have hg1 : ¬ i < 0 := by omega
  have hg2 : ¬ n ≤ i := by omega
  have hg3 : ¬ 8 ≤ i := by omega
  clear hr hA hr2 hw hF hk
  go_enter Try.func6, Try.ntmps6
  go_wp2_with fail
  refine (works16_calls _).mono ?_
  rintro e w1 ⟨rfl, hb⟩
  have B1 := hide hb
  have HR1 := hide (HR.out.below hb)
  have HA1 := hide (HA.out.below hb)
  clear hb
  go_wp2_with fail
  refine (few_calls al ln lc l _ HR1.out HA1.out).mono ?_
  rintro e w2 ⟨he, rfl⟩
  rw [HF.out] at he
  subst he
  go_wp2_with fail
  refine (New_calls n _).mono ?_
  rintro e w3 ⟨rfl, hs, hb⟩
  have HZ := hide B1.out.size
  have K3 := hide (show Kept w w3 (w2.heap.size + 1) w2.heap.size (fun st => isS st i = true) from ⟨⟨_, hs, HIS.out⟩, below_then B1.out B1.out.size hb⟩)
  clear hs hb HR1 HA1
  generalize w2.heap.size = h at HZ K3 ⊢
  go_wp2
  go_loopg [13] ln (fun gg s13 wr => ∃ kk : Nat, kk ≤ ln ∧ ln - kk ≤ gg ∧ s13 = .int .i64 (kk : Int) ∧ Hid (Kept w wr (h + 1) h (fun st => isS st i = true)))
  case atStart => exact ⟨0, Nat.zero_le _, by omega, rfl, K3⟩
  case round =>
    obtain ⟨kk, hkk, hgg, rfl, KR⟩ := hrel
    by_cases hlt : kk < ln
    · have hltz : (kk : Int) < (ln : Int) := by omega
      obtain ⟨⟨st, hs, hp⟩, hb⟩ := KR.out
      obtain ⟨b, off, x, ha, hx, hbl, hc1, hc2, hc3⟩ := (HR.out.below hb).at_ac kk hlt
      obtain ⟨hxr, hxw⟩ := (HA.out.below hb) kk x hx
      have hx8 := fewB_at HF.out hx
      have HDO := hide (do_calls _ _ st x wr hs hxr hxw hx8)
      have HP := hide (show isS (doT st x) i = true by rw [isS_len (doT_len st x)]; exact hp)
      have HB := hide hb
      subst ha
      clear hs hp hb hx hxr hxw hx8
      go_wp2_with fail
      refine HDO.out.mono ?_
      rintro e w4 ⟨rfl, hs, hg⟩
      have K4 := hide (show Kept w w4 (h + 1) h (fun st => isS st i = true) from ⟨⟨_, hs, HP.out⟩, below_row HB.out hg HZ.out⟩)
      clear hs hg
      go_wp2
      go_roundg (ln - (kk + 1))
      case measure => omega
      case rel => exact ⟨kk + 1, by omega, by omega, by go_num, K4⟩
    · have hltz : ¬ (kk : Int) < (ln : Int) := by omega
      obtain rfl : kk = ln := by omega
      obtain ⟨⟨st, hs, hp⟩, hb⟩ := KR.out
      have S4 := hide hs
      have P4 := hide hp
      have B4 := hide hb
      clear hs hp hb
      -- Begin
      go_wp2_with fail
      refine (Begin_calls _ _ _ i _ S4.out).mono ?_
      rintro e w5 ⟨he, hs, hg⟩
      rw [P4.out] at he
      subst he
      have S5 := hide hs
      have B5 := hide (below_row B4.out hg HZ.out)
      have A5 := hide (setS_at P4.out .building)
      clear hs hg
      generalize setS st i .building = st5 at S5 A5
      -- Pick
      go_wp2_with fail
      refine (Pick_calls _ _ _ i hh _ S5.out).mono ?_
      rintro e w6 ⟨he, hb⟩
      rw [A5.out.pick] at he
      subst he
      have S6 := hide (S5.out.below hb)
      have B6 := hide (below_then B5.out B5.out.size hb)
      clear hb
      -- Fill
      go_wp2_with fail
      refine (Fill_calls _ _ _ i a m cap xs _ S6.out (HR2.out.below B6.out) HW.out hmb).mono ?_
      rintro e w7 ⟨he, hs, hg⟩
      rw [A5.out.fill, HK.out] at he
      subst he
      have S7 := hide hs
      have B7 := hide (below_row B6.out hg HZ.out)
      have A7 := hide (show AtS (fillT st5 i xs) i .building by rw [fillT_same (by rw [A5.out.fill, HK.out]; rfl)]; exact A5.out)
      clear hs hg
      generalize fillT st5 i xs = st7 at S7 A7
      -- Fill again
      go_wp2_with fail
      refine (Fill_calls _ _ _ i a m cap xs _ S7.out (HR2.out.below B7.out) HW.out hmb).mono ?_
      rintro e w8 ⟨he, hs, hg⟩
      have hf8 : fillS st7 i xs = false := by rw [A7.out.fill, HK.out]; rfl
      rw [hf8] at he
      rw [fillT_same hf8] at hs
      subst he
      have K8 := hide (show Kept w w8 (h + 1) h (fun st => AtS st i (.building)) from ⟨⟨_, hs, A7.out⟩, below_row B7.out hg HZ.out⟩)
      clear hs hg hf8
      go_wp2
      go_loopg [19] kk (fun gg s19 wr => ∃ jj : Nat, jj ≤ kk ∧ kk - jj ≤ gg ∧ s19 = .int .i64 (jj : Int) ∧ Hid (Kept w wr (h + 1) h (fun st => AtS st i (.building))))
      case atStart => exact ⟨0, Nat.zero_le _, by omega, rfl, K8⟩
      case round =>
        obtain ⟨jj, hjj, hgj, rfl, KJ⟩ := hrel
        by_cases hlj : jj < kk
        · have hljz : (jj : Int) < (kk : Int) := by omega
          obtain ⟨⟨st9, hs, hp⟩, hb⟩ := KJ.out
          obtain ⟨b, off, x, ha, hx, hbl, hc1, hc2, hc3⟩ := (HR.out.below hb).at_ac jj hlj
          obtain ⟨hxr, hxw⟩ := (HA.out.below hb) jj x hx
          have hx8 := fewB_at HF.out hx
          have HDO := hide (do_calls _ _ st9 x _ hs hxr hxw hx8)
          have HB := hide hb
          have HP := hide hp
          subst ha
          clear hs hp hb hx hxr hxw hx8
          by_cases hxi : x.I = i
          · have hxib : (x.I != i) = false := by simpa using hxi
            clear hxi
            go_wp2
            go_roundg (kk - (jj + 1))
            case measure => omega
            case rel => exact ⟨jj + 1, by omega, by omega, by go_num, KJ⟩
          · have hxib : (x.I != i) = true := by simpa using hxi
            have HXI := hide hxi
            clear hxi
            go_wp2_with fail
            refine HDO.out.mono ?_
            rintro e w10 ⟨rfl, hs, hg⟩
            have K10 := hide (show Kept w w10 (h + 1) h (fun st => AtS st i (.building)) from ⟨⟨_, hs, doT_other HP.out HXI.out⟩, below_row HB.out hg HZ.out⟩)
            clear hs hg
            go_wp2
            go_roundg (kk - (jj + 1))
            case measure => omega
            case rel => exact ⟨jj + 1, by omega, by omega, by go_num, K10⟩
        · have hljz : ¬ (jj : Int) < (kk : Int) := by omega
          obtain rfl : jj = kk := by omega
          obtain ⟨⟨st10, hs, hp⟩, hb⟩ := KJ.out
          have S10 := hide hs
          have A10 := hide hp
          have B10 := hide hb
          clear hs hp hb KJ KR K8 K3
          have hpk : pickS st10 i hh = (0, false) := by rw [A10.out.pick]
          have hsz : sizeS st10 i = (0, false) := by rw [A10.out.size]
          have HPK := hide hpk
          have HSZ := hide hsz
          clear hpk hsz
          go_wp2_with fail
          refine (Pick_calls _ _ _ i hh _ S10.out).mono ?_
          rintro e w11 ⟨he, hb⟩
          rw [HPK.out] at he
          subst he
          have S11 := hide (S10.out.below hb)
          have B11 := hide (below_then B10.out B10.out.size hb)
          clear hb
          go_wp2_with fail
          refine (Size_calls _ _ _ i _ S11.out).mono ?_
          rintro e w12 ⟨he, hb⟩
          rw [HSZ.out] at he
          subst he
          have S12 := hide (S11.out.below hb)
          have B12 := hide (below_then B11.out B11.out.size hb)
          clear hb
          go_wp2_with fail
          refine (Spoil_calls _ _ _ i _ S12.out).mono ?_
          rintro e w13 ⟨he, hs, hg⟩
          rw [A10.out.1] at he
          subst he
          have S13 := hide hs
          have A13 := hide (setS_at A10.out.1 .spoilt)
          have B13 := hide (below_row B12.out hg HZ.out)
          clear hs hg
          go_wp2_with fail
          refine (Pick_calls _ _ _ i hh _ S13.out).mono ?_
          rintro e w14 ⟨he, hb⟩
          rw [A13.out.pick] at he
          subst he
          have B14 := hide (below_then B13.out B13.out.size hb)
          clear hb
          go_wp2_with fail
          refine (Check_calls a m cap xs _ (HR2.out.below B14.out) HW.out hmb).mono ?_
          rintro e w15 ⟨he, hb⟩
          rw [HK.out] at he
          subst he
          have B15 := hide (below_then B14.out B14.out.size hb)
          clear hb
          go_wp2
          go_ret
          exact ⟨rfl, B15.out⟩

theorem SlotsReady_all (al a : Option Addr) (ln lc m cap : Nat) (n i hh : Int) (l : List Ac) (xs : List Bk) (w : World) (hr : Rd 3 actc w al ln l) (hA : AcR w l) (hr2 : Rd 2 bkc w a m xs) (hw : Wf xs) :
    Calls Try.prog 6 #[.int .i64 n, .slice al ln lc, .int .i64 i, .slice a m cap, .int .u64 hh] w fun e w' => e = .returned (.bool true) ∧ Below w.heap.size w w' := by
  by_cases h : fewB l = false ∨ (fewB l = true ∧ ((8 : Int) < (m : Int) ∨ (¬ (8 : Int) < (m : Int) ∧ (i < 0 ∨ (0 ≤ i ∧ (n ≤ i ∨ (i < n ∧ 8 ≤ i)))))))
  · exact SlotsReady_far al a ln lc m cap n i hh l w hr hA hr2.le h
  · have hF : fewB l = true := by
      cases hf : fewB l with
      | true => rfl
      | false => exact absurd (.inl hf) h
    rw [hF] at h
    have h' : ¬ (8 : Int) < (m : Int) ∧ 0 ≤ i ∧ i < n ∧ i < 8 := by
      simp only [reduceCtorEq, true_and, false_or] at h
      omega
    rcases check_01 xs with hk | hk
    · exact SlotsReady_g al a ln lc m cap n i hh l xs w hr hA hr2 hw hF h'.1 h'.2.1 h'.2.2.1 h'.2.2.2 hk
    · exact SlotsReady_n al a ln lc m cap n i hh l xs w hr hA hr2 hw hF h'.1 h'.2.1 h'.2.2.1 h'.2.2.2 hk
end Go.Proofs.Ytiaifphidcfddaa
