/-
  The reference of layer 16: Fill, Ready, Pick, Has, Size, New.
-/
import Derived.Test.YtiaifphidcfddaaRef16
import Derived.Test.YtiaifphidcfddaaLaw16A
set_option linter.unusedVariables false
set_option linter.unusedSimpArgs false
namespace Go.Proofs.Ytiaifphidcfddaa
open Go.RowKit Go.Shelf

theorem fillS_no2 {st : List Sl} {i : Int} (h : isS st i = false) (xs : List Bk) : fillS st i xs = false := by unfold fillS; rw [h]; rfl
theorem fillT_same2 {st : List Sl} {i : Int} {xs : List Bk} (h : fillS st i xs = false) : fillT st i xs = st := by unfold fillT; rw [h]; rfl

theorem Rd.at_rs {w : World} {a : Option Addr} {n : Nat} {l : List Rs} (h : Rd 2 slotc w a n l) (j : Nat) (x : Rs) (hx : l[j]? = some x) :
    ∃ b off, a = some ⟨b, off, none⟩ ∧ b < w.heap.size ∧ w.cell? ⟨b, off + j * 2, none⟩ = some (.int .i64 x.s) ∧ w.cell? ⟨b, off + j * 2 + 1, none⟩ = some (.slice x.a x.n x.cap) := by
  obtain ⟨b, off, y, ha, hy, hb, hc⟩ := h.at_ j (by rw [h.len]; exact (List.getElem?_eq_some_iff.1 hx).1)
  rw [hx] at hy; cases hy
  exact ⟨b, off, ha, hb, hc 0 _ rfl, hc 1 _ rfl⟩

set_option maxRecDepth 100000 in
set_option maxHeartbeats 2000000 in
theorem RFill_calls (w0 : World) (h : Nat) (v : Value) (st : List Sl) (i : Int) (a2 : Option Addr) (n2 cap2 : Nat) (xs : List Bk) (w : World) (k : RAt w0 w h v st) (hh : h < w.heap.size) (hr2 : Rd 2 bkc w0 a2 n2 xs) (hB0 : Below w0.heap.size w0 w) :
    Calls Try.prog 47 #[v, .int .i64 i, .slice a2 n2 cap2] w (TwoR w0 w h (fillT st i xs) (fillS st i xs)) := by
  obtain ⟨a, cap, l, rfl, hr, hq, h8, hs⟩ := k
  have HIs := hide (RIs_calls a st.length cap i)
  have hii : (decide (0 ≤ i) && decide (i < (st.length : Int))) = isS st i := rfl
  rw [hii] at HIs
  clear hii
  have HCK := hide (RCheck_calls a2 n2 cap2 xs w (hr2.below hB0))
  cases hi : isS st i with
  | false =>
    rw [hi] at HIs
    have hf : fillS st i xs = false := fillS_no2 hi xs
    have ht : fillT st i xs = st := fillT_same2 hf
    rw [hf, ht]
    have HK := hide (show RAt w0 w h (.slice a st.length cap) st from ⟨a, cap, l, rfl, hr, hq, h8, hs⟩)
    clear hr hq hs hi hf ht hr2 HCK
    obtain ⟨n, hn⟩ : ∃ n, st.length = n := ⟨_, rfl⟩
    rw [hn] at HIs HK h8 ⊢
    clear hn
    go_enter Try.func47, Try.ntmps47
    go_wp2_with (go_at_call 72; refine (HIs.out _ h8).mono ?_; rintro e w' ⟨rfl, rfl⟩)
    go_ret2
    exact ⟨_, rfl, HK.out, Below.refl _ _⟩
  | true =>
    rw [hi] at HIs
    obtain ⟨m, rfl, hm⟩ := isS_true hi
    obtain ⟨x, hx, hv⟩ := hs m st[m] (List.getElem?_eq_getElem hm)
    obtain ⟨b, off, rfl, hbl, hc1, hc2⟩ := hr.at_rs m x hx
    have hmz : (m : Int) < (st.length : Int) := by omega
    have m0 : (0 : Int) ≤ (m : Int) := by omega
    cases hst : st[m] with
    | building =>
      rw [hst] at hv
      obtain ⟨xs_, xa, xn, xc⟩ := x
      obtain rfl : xs_ = 1 := hv
      simp only at hc1 hc2
      have hbd : bldS st (m : Int) = true := by unfold bldS; rw [Int.toNat_natCast, List.getElem?_eq_getElem hm, hst]
      rcases check_01 xs with hk | hk
      · rw [hk] at HCK
        have hf : fillS st (m : Int) xs = true := by unfold fillS; rw [hi, hk, hbd]; rfl
        have ht : fillT st (m : Int) xs = st.set m (.ready xs) := by unfold fillT; rw [hf]; simp
        rw [hf, ht]
        have HW := hide (fun (W : World) (hW : Below w.heap.size w W) => RWith_calls16 (some ⟨b, off, none⟩) st.length cap l m ⟨2, a2, n2, cap2⟩ W (hr.below hW) hm h8)
        have HK : Hid (∀ (B : Nat) (v' : Value) (w' : World), h < B → Ow 2 slotc 84 B w' v' (l.set m ⟨2, a2, n2, cap2⟩) → RAt w0 w' h v' (st.set m (.ready xs))) := hide (fun B v' w' hB ho => by
          obtain ⟨a', cap', hv', hr', hb'⟩ := ho.form slotc_len
          have hl : (l.set m ⟨2, a2, n2, cap2⟩).length = (st.set m (.ready xs)).length := by rw [List.length_set, List.length_set, ← hr.len]
          rw [hl] at hv' hr'
          refine ⟨a', cap', _, hv', hr', fun q hq' _ => by have := (hb' q hq').1; omega, by rw [List.length_set]; exact h8, fun j t hj => ?_⟩
          by_cases e : m = j
          · subst e
            rw [List.getElem?_set_self hm] at hj
            cases hj
            exact ⟨_, List.getElem?_set_self (by rw [← hr.len]; exact hm), rfl, hr2, hk⟩
          · rw [List.getElem?_set_ne e] at hj ⊢
            exact hs j t hj)
        clear hr hq hs hi hf ht hr2 hx hst hbd hk hm hc2
        generalize st.set m (.ready xs) = st' at HK ⊢
        obtain ⟨n, hn⟩ : ∃ n, st.length = n := ⟨_, rfl⟩
        rw [hn] at HIs HW h8 hmz ⊢
        clear hn
        go_enter Try.func47, Try.ntmps47
        go_wp2_with (first | (go_at_call 72; refine (HIs.out _ h8).mono ?_; rintro e w' ⟨rfl, rfl⟩) | (go_at_call 43; refine HCK.out.mono ?_; rintro e w1 ⟨rfl, hb⟩; have HB1 := hide hb; clear hb) | (go_at_call 73; refine (HW.out _ HB1.out).mono ?_; rintro e w2 ⟨v', rfl, ho, hb⟩; have HO := hide (HK.out _ _ _ (Nat.lt_of_lt_of_le hh HB1.out.size) ho); have HB := hide (below_then HB1.out HB1.out.size hb); clear ho hb))
        go_ret2
        exact ⟨_, rfl, HO.out, HB.out⟩
      · rw [hk] at HCK
        have hf : fillS st (m : Int) xs = false := by unfold fillS; rw [hk]; simp
        have ht : fillT st (m : Int) xs = st := fillT_same2 hf
        rw [hf, ht]
        have HK := hide (show RAt w0 w h (.slice (some ⟨b, off, none⟩) st.length cap) st from ⟨_, cap, l, rfl, hr, hq, h8, hs⟩)
        clear hr hq hs hi hf ht hr2 hx hst hbd hk hm hc2
        obtain ⟨n, hn⟩ : ∃ n, st.length = n := ⟨_, rfl⟩
        rw [hn] at HIs HK h8 hmz ⊢
        clear hn
        go_enter Try.func47, Try.ntmps47
        go_wp2_with (first | (go_at_call 72; refine (HIs.out _ h8).mono ?_; rintro e w' ⟨rfl, rfl⟩) | (go_at_call 43; refine HCK.out.mono ?_; rintro e w1 ⟨rfl, hb⟩; have HB1 := hide hb; clear hb))
        go_ret2
        exact ⟨_, rfl, HK.out.below HB1.out, HB1.out⟩
    | spoilt =>
      rw [hst] at hv
      obtain ⟨xs_, xa, xn, xc⟩ := x
      obtain rfl : xs_ = 0 := hv
      simp only at hc1 hc2
      have hf : fillS st (m : Int) xs = false := by unfold fillS bldS; rw [Int.toNat_natCast, List.getElem?_eq_getElem hm, hst]; simp
      have ht : fillT st (m : Int) xs = st := fillT_same2 hf
      rw [hf, ht]
      have HK := hide (show RAt w0 w h (.slice (some ⟨b, off, none⟩) st.length cap) st from ⟨_, cap, l, rfl, hr, hq, h8, hs⟩)
      clear hr hq hs hi hf ht hr2 hx hst hm hc2
      obtain ⟨n, hn⟩ : ∃ n, st.length = n := ⟨_, rfl⟩
      rw [hn] at HIs HK h8 hmz ⊢
      clear hn
      go_enter Try.func47, Try.ntmps47
      go_wp2_with (go_at_call 72; refine (HIs.out _ h8).mono ?_; rintro e w' ⟨rfl, rfl⟩)
      go_ret2
      exact ⟨_, rfl, HK.out, Below.refl _ _⟩
    | ready p =>
      rw [hst] at hv
      obtain ⟨xs_, xa, xn, xc⟩ := x
      obtain ⟨rfl, -, -⟩ : xs_ = 2 ∧ _ ∧ _ := hv
      simp only at hc1 hc2
      have hf : fillS st (m : Int) xs = false := by unfold fillS bldS; rw [Int.toNat_natCast, List.getElem?_eq_getElem hm, hst]; simp
      have ht : fillT st (m : Int) xs = st := fillT_same2 hf
      rw [hf, ht]
      have HK := hide (show RAt w0 w h (.slice (some ⟨b, off, none⟩) st.length cap) st from ⟨_, cap, l, rfl, hr, hq, h8, hs⟩)
      clear hr hq hs hi hf ht hr2 hx hst hm hc2
      obtain ⟨n, hn⟩ : ∃ n, st.length = n := ⟨_, rfl⟩
      rw [hn] at HIs HK h8 hmz ⊢
      clear hn
      go_enter Try.func47, Try.ntmps47
      go_wp2_with (go_at_call 72; refine (HIs.out _ h8).mono ?_; rintro e w' ⟨rfl, rfl⟩)
      go_ret2
      exact ⟨_, rfl, HK.out, Below.refl _ _⟩

set_option maxHeartbeats 1000000 in
theorem RReady_calls (w0 : World) (h : Nat) (a : Option Addr) (cap : Nat) (st : List Sl) (i : Int) (w : World) (k : RAt w0 w h (.slice a st.length cap) st) :
    Calls Try.prog 52 #[.slice a st.length cap, .int .i64 i] w fun e w' => e = .returned (.bool (rdyS st i).isSome) ∧ w' = w := by
  obtain ⟨a_, cap_, l, hvv, hr, hq, h8, hs⟩ := k
  cases hvv
  have HIs := hide (RIs_calls a st.length cap i)
  have hii : (decide (0 ≤ i) && decide (i < (st.length : Int))) = isS st i := rfl
  rw [hii] at HIs
  clear hii
  cases hi : isS st i with
  | false =>
    rw [hi] at HIs
    have e : (rdyS st i).isSome = false := by unfold rdyS; rw [hi]; rfl
    rw [e]
    clear hr hq hs hi e
    obtain ⟨n, hn⟩ : ∃ n, st.length = n := ⟨_, rfl⟩
    rw [hn] at HIs h8 ⊢
    clear hn
    go_enter Try.func52, Try.ntmps52
    go_wp2_with (go_at_call 72; refine (HIs.out _ h8).mono ?_; rintro e w' ⟨rfl, rfl⟩)
    go_ret
    exact ⟨rfl, rfl⟩
  | true =>
    rw [hi] at HIs
    obtain ⟨m, rfl, hm⟩ := isS_true hi
    obtain ⟨x, hx, hv⟩ := hs m st[m] (List.getElem?_eq_getElem hm)
    obtain ⟨b, off, rfl, hbl, hc1, hc2⟩ := hr.at_rs m x hx
    have hmz : (m : Int) < (st.length : Int) := by omega
    have m0 : (0 : Int) ≤ (m : Int) := by omega
    obtain ⟨xs_, xa, xn, xc⟩ := x
    simp only at hc1 hc2
    obtain ⟨q, hq1, hq2⟩ : ∃ q : Bool, (rdyS st (m : Int)).isSome = q ∧ (xs_ == 2) = q := by
      unfold rdyS
      rw [hi, if_pos rfl, Int.toNat_natCast, List.getElem?_eq_getElem hm]
      cases hst : st[m] with
      | spoilt => rw [hst] at hv; obtain rfl : xs_ = 0 := hv; exact ⟨false, rfl, rfl⟩
      | building => rw [hst] at hv; obtain rfl : xs_ = 1 := hv; exact ⟨false, rfl, rfl⟩
      | ready p => rw [hst] at hv; obtain rfl : xs_ = 2 := hv.1; exact ⟨true, rfl, rfl⟩
    rw [hq1]
    clear hr hq hs hi hx hm hv hc2 hq1
    obtain ⟨n, hn⟩ : ∃ n, st.length = n := ⟨_, rfl⟩
    rw [hn] at HIs h8 hmz ⊢
    clear hn
    cases q
    all_goals
      go_enter Try.func52, Try.ntmps52
      go_wp2_with (go_at_call 72; refine (HIs.out _ h8).mono ?_; rintro e w' ⟨rfl, rfl⟩)
      go_ret
      exact ⟨rfl, rfl⟩

theorem RAt.ready {w0 w : World} {h : Nat} {a : Option Addr} {cap : Nat} {st : List Sl} (k : RAt w0 w h (.slice a st.length cap) st) {i : Int} {p : List Bk} (hp : rdyS st i = some p) :
    ∃ (m b off : Nat) (xa : Option Addr) (xn xc : Nat), i = (m : Int) ∧ m < st.length ∧ a = some ⟨b, off, none⟩ ∧ w.cell? ⟨b, off + m * 2 + 1, none⟩ = some (.slice xa xn xc) ∧ Rd 2 bkc w0 xa xn p ∧ check p = 0 ∧ st.length ≤ 8 := by
  obtain ⟨a_, cap_, l, hvv, hr, hq, h8, hs⟩ := k
  cases hvv
  obtain ⟨m, rfl, hm, hst⟩ := rdyS_some hp
  obtain ⟨x, hx, hv⟩ := hs m _ hst
  obtain ⟨b, off, rfl, hbl, hc1, hc2⟩ := hr.at_rs m x hx
  exact ⟨m, b, off, x.a, x.n, x.cap, rfl, hm, rfl, hc2, hv.2.1, hv.2.2, h8⟩

theorem RPick10_calls (a : Option Addr) (n cap : Nat) (xs : List Bk) (h : Int) (w : World) (hr : Rd 2 bkc w a n xs) (hv : Vp xs) (hbig : n ≤ 65536) :
    Calls Try.prog 53 #[.slice a n cap, .int .u64 h] w fun e w' => e = .returned (.int .i64 (succP (ofP xs) h)) ∧ Below w.heap.size w w' := by
  have HC := hide (ROf_calls a n cap xs w hr hv hbig)
  clear hr hv
  go_enter Try.func53, Try.ntmps53
  go_wp2_with fail
  refine HC.out.mono ?_
  rintro e w1 ⟨a1, c1, rfl, r1, hb1⟩
  have HB1 := hide hb1
  have HC2 := hide (RSucc_calls a1 _ c1 (ofP xs) h w1 r1)
  clear r1 hb1 HC
  go_wp2_with fail
  refine HC2.out.mono ?_
  rintro e w2 ⟨rfl, rfl⟩
  go_wp2
  go_ret
  exact ⟨rfl, HB1.out⟩

set_option maxHeartbeats 1000000 in
theorem RPick_calls16 (w0 : World) (h : Nat) (a : Option Addr) (cap : Nat) (st : List Sl) (i hh : Int) (w : World) (k : RAt w0 w h (.slice a st.length cap) st) (hB0 : Below w0.heap.size w0 w) :
    Calls Try.prog 21 #[.slice a st.length cap, .int .i64 i, .int .u64 hh] w (TwoI w (pickS st i hh).1 (pickS st i hh).2) := by
  have HRY := hide (RReady_calls w0 h a cap st i w k)
  cases hp : rdyS st i with
  | none =>
    rw [hp] at HRY
    have e : pickS st i hh = (0, false) := by unfold pickS; rw [hp]
    rw [e]
    clear e
    clear k hp
    go_enter Try.func21, Try.ntmps21
    go_wp2_with (go_at_call 52; refine HRY.out.mono ?_; rintro e w' ⟨rfl, rfl⟩)
    go_ret2
    exact ⟨rfl, Below.refl _ _⟩
  | some p =>
    rw [hp] at HRY
    obtain ⟨m, b, off, xa, xn, xc, rfl, hm, rfl, hc, hrp, hck, h8⟩ := k.ready hp
    have hmz : (m : Int) < (st.length : Int) := by omega
    have m0 : (0 : Int) ≤ (m : Int) := by omega
    have e : pickS st (m : Int) hh = (succP (ofP p) hh, true) := by unfold pickS; rw [hp]
    rw [e]
    have HC := hide (RPick10_calls xa xn xc p hh w (hrp.below hB0) (vp_of_check hck) (by have := hrp.len; have := len_of_check hck; omega))
    clear e
    clear k hp hrp hck hm
    obtain ⟨n, hn⟩ : ∃ n, st.length = n := ⟨_, rfl⟩
    rw [hn] at HRY h8 hmz ⊢
    clear hn
    go_enter Try.func21, Try.ntmps21
    go_wp2_with (first | (go_at_call 52; refine HRY.out.mono ?_; rintro e w' ⟨rfl, rfl⟩) | (go_at_call 53; refine HC.out.mono ?_; rintro e w1 ⟨rfl, hb⟩; have HB := hide hb; clear hb))
    go_ret2
    exact ⟨rfl, HB.out⟩

set_option maxHeartbeats 1000000 in
theorem RHas_calls16 (w0 : World) (h : Nat) (a : Option Addr) (cap : Nat) (st : List Sl) (i id : Int) (w : World) (k : RAt w0 w h (.slice a st.length cap) st) (hB0 : Below w0.heap.size w0 w) :
    Calls Try.prog 23 #[.slice a st.length cap, .int .i64 i, .int .i64 id] w (TwoB w (hasS st i id).1 (hasS st i id).2) := by
  have HRY := hide (RReady_calls w0 h a cap st i w k)
  cases hp : rdyS st i with
  | none =>
    rw [hp] at HRY
    have e : hasS st i id = (false, false) := by unfold hasS; rw [hp]
    rw [e]
    clear e
    clear k hp
    go_enter Try.func23, Try.ntmps23
    go_wp2_with (go_at_call 52; refine HRY.out.mono ?_; rintro e w' ⟨rfl, rfl⟩)
    go_ret2
    exact ⟨rfl, Below.refl _ _⟩
  | some p =>
    rw [hp] at HRY
    obtain ⟨m, b, off, xa, xn, xc, rfl, hm, rfl, hc, hrp, hck, h8⟩ := k.ready hp
    have hmz : (m : Int) < (st.length : Int) := by omega
    have m0 : (0 : Int) ≤ (m : Int) := by omega
    have e : hasS st (m : Int) id = (decide (0 ≤ find p id), true) := by unfold hasS; rw [hp]
    rw [e]
    have HC := hide (RFind_calls xa xn xc p id w (hrp.below hB0))
    generalize find p id = fd at HC ⊢
    clear e
    clear k hp hrp hck hm
    obtain ⟨n, hn⟩ : ∃ n, st.length = n := ⟨_, rfl⟩
    rw [hn] at HRY h8 hmz ⊢
    clear hn
    go_enter Try.func23, Try.ntmps23
    go_wp2_with (first | (go_at_call 52; refine HRY.out.mono ?_; rintro e w' ⟨rfl, rfl⟩) | (go_at_call 44; refine HC.out.mono ?_; rintro e w1 ⟨rfl, hb⟩; have HB := hide hb; clear hb))
    go_ret2
    exact ⟨rfl, HB.out⟩

set_option maxHeartbeats 1000000 in
theorem RSize_calls16 (w0 : World) (h : Nat) (a : Option Addr) (cap : Nat) (st : List Sl) (i : Int) (w : World) (k : RAt w0 w h (.slice a st.length cap) st) (hB0 : Below w0.heap.size w0 w) :
    Calls Try.prog 25 #[.slice a st.length cap, .int .i64 i] w (TwoI w (sizeS st i).1 (sizeS st i).2) := by
  have HRY := hide (RReady_calls w0 h a cap st i w k)
  cases hp : rdyS st i with
  | none =>
    rw [hp] at HRY
    have e : sizeS st i = (0, false) := by unfold sizeS; rw [hp]
    rw [e]
    clear e
    clear k hp
    go_enter Try.func25, Try.ntmps25
    go_wp2_with (go_at_call 52; refine HRY.out.mono ?_; rintro e w' ⟨rfl, rfl⟩)
    go_ret2
    exact ⟨rfl, Below.refl _ _⟩
  | some p =>
    rw [hp] at HRY
    obtain ⟨m, b, off, xa, xn, xc, rfl, hm, rfl, hc, hrp, hck, h8⟩ := k.ready hp
    have hmz : (m : Int) < (st.length : Int) := by omega
    have m0 : (0 : Int) ≤ (m : Int) := by omega
    have e : sizeS st (m : Int) = ((p.length : Int), true) := by unfold sizeS; rw [hp]
    rw [e]
    have HL := hide hrp.len
    have hxn := hrp.le
    clear e
    clear k hp hrp hck hm
    obtain ⟨n, hn⟩ : ∃ n, st.length = n := ⟨_, rfl⟩
    rw [hn] at HRY h8 hmz ⊢
    clear hn
    go_enter Try.func25, Try.ntmps25
    go_wp2_with (first | (go_at_call 52; refine HRY.out.mono ?_; rintro e w' ⟨rfl, rfl⟩))
    go_ret2
    exact ⟨by rw [HL.out]; rfl, Below.refl _ _⟩
end Go.Proofs.Ytiaifphidcfddaa
