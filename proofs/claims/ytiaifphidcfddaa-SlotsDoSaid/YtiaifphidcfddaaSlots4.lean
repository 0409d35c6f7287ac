/-
  slots: Fill.
-/
import Derived.Test.YtiaifphidcfddaaSlots3
import Derived.Test.YtiaifphidcfddaaRef8d
set_option linter.unusedVariables false
set_option linter.unusedSimpArgs false
namespace Go.Proofs.Ytiaifphidcfddaa
open Go.RowKit Go.Shelf

theorem vp_of_check {xs : List Bk} (h : check xs = 0) : Vp xs := by
  unfold check at h
  split at h
  · rename_i hc
    rw [Bool.and_eq_true] at hc
    have hc1 := hc.1
    unfold chk at hc1
    rw [List.all_eq_true] at hc1
    intro j x hx
    have := hc1 j (List.mem_range.2 (List.getElem?_eq_some_iff.1 hx).1)
    rw [hx] at this
    simp only [Bool.and_eq_true, Bool.not_eq_true'] at this
    obtain ⟨x1, x2⟩ := x
    obtain ⟨h1, h2, h3, h4⟩ := (bad_iff x1 x2).1 this.2
    exact ⟨x1.toNat, x2.toNat, by rw [Int.toNat_of_nonneg (by omega), Int.toNat_of_nonneg (by omega)], by omega, by omega, by omega, by omega⟩
  · cases h
theorem len_of_check {xs : List Bk} (h : check xs = 0) : xs.length ≤ 32 := by
  unfold check at h
  split at h
  · rename_i hc
    rw [Bool.and_eq_true] at hc
    exact of_decide_eq_true hc.2
  · cases h
theorem check_01 (xs : List Bk) : check xs = 0 ∨ check xs = 10 := by
  unfold check; split
  · exact .inl rfl
  · exact .inr rfl

/-- Is a slot being built? -/
def bldS (st : List Sl) (i : Int) : Bool := match st[i.toNat]? with | some .building => true | _ => false
def fillS (st : List Sl) (i : Int) (xs : List Bk) : Bool := isS st i && (decide (check xs = 0) && bldS st i)
def fillT (st : List Sl) (i : Int) (xs : List Bk) : List Sl := if fillS st i xs then st.set i.toNat (.ready xs) else st
theorem fillT_len (st : List Sl) (i : Int) (xs : List Bk) : (fillT st i xs).length = st.length := by unfold fillT; split <;> simp

set_option maxRecDepth 100000 in
set_option maxHeartbeats 4000000 in
theorem Fill_calls (g h : Nat) (st : List Sl) (i : Int) (a : Option Addr) (n cap : Nat) (xs : List Bk) (w : World) (k : SlAt w g h st) (hr : Rd 2 bkc w a n xs) (hw : Wf xs) (hbig : n < 4294967296) :
    Calls Try.prog 28 #[.pointer (some ⟨g, 0, none⟩), .int .i64 i, .slice a n cap] w fun e w' => e = .returned (.bool (fillS st i xs)) ∧ SlAt w' g h (fillT st i xs) ∧ w.grownBy w' (some h) := by
  have hc := k.ptr
  have h8 := k.2.2.1
  cases hi : isS st i with
  | false =>
    have e : fillS st i xs = false := by unfold fillS; rw [hi]; rfl
    have e2 : fillT st i xs = st := by unfold fillT; rw [e]; rfl
    rw [e, e2]
    have K := hide k
    rcases isS_false hi with h1 | ⟨h1, h2⟩
    · clear k hi hr hw e e2
      go_enter Try.func28, Try.ntmps28
      go_wp2
      go_ret
      exact ⟨rfl, K.out, World.grownBy.refl _ _⟩
    · have h1' : ¬ i < 0 := by omega
      clear k hi hr hw e e2
      obtain ⟨l, hl⟩ : ∃ l, st.length = l := ⟨_, rfl⟩
      rw [hl] at hc h2 h8
      clear hl
      go_enter Try.func28, Try.ntmps28
      go_wp2
      go_ret
      exact ⟨rfl, K.out, World.grownBy.refl _ _⟩
  | true =>
    obtain ⟨m, rfl, hm⟩ := isS_true hi
    have h1' : ¬ (m : Int) < 0 := by omega
    have h2 : (m : Int) < (st.length : Int) := by omega
    have hcon := hide (Check_calls a n cap xs w hr hw hbig)
    have K := hide k
    rcases check_01 xs with hk | hk
    · -- the pool may be
      rw [hk] at hcon
      have hvp := vp_of_check hk
      have h32 := len_of_check hk
      obtain ⟨v, hv, hsv, -, -⟩ := k.at_ m st[m] (List.getElem?_eq_getElem hm)
      cases hs : st[m] with
      | building =>
        have e : fillS st (m : Int) xs = true := by unfold fillS bldS; rw [hi, hk, Int.toNat_natCast, List.getElem?_eq_getElem hm, hs]; rfl
        have e2 : fillT st (m : Int) xs = st.set m (.ready xs) := by unfold fillT; rw [e]; simp
        rw [e, e2]
        rw [hs] at hsv
        obtain rfl : v = .iface 92 (.agg #[]) := hsv
        have tb := tb_bld
        have HR := hide hr
        have HV := hide hvp
        have HM := hide hm
        have HL := hide hr.len
        have HN := hide (show n ≤ 65536 by have := hr.len; omega)
        have hlm : decide (st.length ≤ m) = false := by simpa using hm
        have hgl := hide (show g < w.heap.size ∧ h < w.heap.size from ⟨(Array.getElem?_eq_some_iff.1 k.1).1, by obtain ⟨_, _, _, cur, h4, _⟩ := k; exact (Array.getElem?_eq_some_iff.1 h4).1⟩)
        have hgz : g < w.heap.size := hgl.out.1
        have hhz : h < w.heap.size := hgl.out.2
        clear k hi hr hw e e2 hs hk hvp h32 hm
        obtain ⟨l, hl⟩ : ∃ l, st.length = l := ⟨_, rfl⟩
        rw [hl] at hc h2 h8 hlm
        clear hl
        go_enter Try.func28, Try.ntmps28
        go_wp2_with (go_at_call 26; refine hcon.out.mono ?_; rintro e w1 ⟨rfl, hb1⟩; have HB1 := hide hb1; have hc1 := cell_later hb1 hc; have hv1 := cell_later hb1 hv; clear hb1)
        have hb2 : Below w.heap.size w (w1.alloc (.cells #[] 92)) := HB1.out.alloc HB1.out.size _
        have HB2 := hide hb2
        refine (Clone_calls a n cap xs _ (HR.out.below hb2) (by have := HN.out; omega)).mono ?_
        rintro e w3 ⟨v3, rfl, ho3, hb3, -⟩
        have HB3 := hide (below_then HB2.out HB2.out.size hb3)
        obtain ⟨a3, c3, rfl, r3, hbl3⟩ := ho3.form bkc_len
        have R3 := hide r3
        have hbl3' : ∀ q, a3 = some q → q.block ≠ h := fun q hq e => by have := (hbl3 q hq).1; have := HB2.out.size; omega
        have HBL3 := hide hbl3'
        clear ho3 hb3 hb2 r3 hbl3 hbl3'
        go_wp2_with fail
        refine (Of_calls a n cap xs w3 (HR.out.below HB3.out) HV.out HN.out).mono ?_
        rintro e w4 ⟨a4, c4, rfl, r4, hb4, hq4⟩
        have R4 := hide r4
        have HB4 := hide (below_then HB3.out HB3.out.size hb4)
        have K4 := K.out.below HB4.out
        clear r4
        have hx4 : SlVal w4 h (.iface 79 (.agg #[.slice a3 xs.length c3, .slice a4 (ofP xs).length c4])) (.ready xs) := ⟨a3, _, c3, a4, _, c4, rfl, ⟨R3.out.below hb4, fun q hq _ => HBL3.out q hq⟩, R4.out, (fun q hq _ e => by have := hq4 q hq; have := HB3.out.size; omega), by show (srt (ptsU xs)).length < _; rw [srt_len]; have := ptsU_len xs HV.out; have := HL.out; have := HN.out; omega⟩
        have HP := hide (put_yes g h st m (.ready xs) _ w4 K4 HM.out hx4 rfl)
        clear hx4 K4 hb4 hq4
        go_wp2_with fail
        refine HP.out.mono ?_
        rintro e w5 ⟨rfl, hs5, hg5⟩
        have S5 := hide hs5
        have G5 := hide hg5
        clear hs5 hg5
        go_wp2
        go_ret
        exact ⟨rfl, S5.out, (grownBy_of_below HB4.out _).trans G5.out⟩
      | spoilt =>
        have e : fillS st (m : Int) xs = false := by unfold fillS bldS; rw [hi, hk, Int.toNat_natCast, List.getElem?_eq_getElem hm, hs]; rfl
        have e2 : fillT st (m : Int) xs = st := by unfold fillT; rw [e]; rfl
        rw [e, e2]
        rw [hs] at hsv
        obtain rfl : v = .nilIface := hsv
        have tb := tb_nil
        have hlm : decide (st.length ≤ m) = false := by simpa using hm
        clear k hi hr hw e e2 hs hk hvp h32 hm
        obtain ⟨l, hl⟩ : ∃ l, st.length = l := ⟨_, rfl⟩
        rw [hl] at hc h2 h8 hlm
        clear hl
        go_enter Try.func28, Try.ntmps28
        go_wp2_with (go_at_call 26; refine hcon.out.mono ?_; rintro e w1 ⟨rfl, hb1⟩; have HB1 := hide hb1; have hc1 := cell_later hb1 hc; have hv1 := cell_later hb1 hv; clear hb1)
        have HB2 := hide (show Below w.heap.size w (w1.alloc (.cells #[] 92)) from HB1.out.alloc HB1.out.size _)
        go_ret
        exact ⟨rfl, K.out.below HB2.out, grownBy_of_below HB2.out _⟩
      | ready p =>
        have e : fillS st (m : Int) xs = false := by unfold fillS bldS; rw [hi, hk, Int.toNat_natCast, List.getElem?_eq_getElem hm, hs]; rfl
        have e2 : fillT st (m : Int) xs = st := by unfold fillT; rw [e]; rfl
        rw [e, e2]
        rw [hs] at hsv
        obtain ⟨a5, n5, c5, b5, m5, d5, rfl, -⟩ := hsv
        have tb := tb_rdy
        have hlm : decide (st.length ≤ m) = false := by simpa using hm
        clear k hi hr hw e e2 hs hk hvp h32 hm
        obtain ⟨l, hl⟩ : ∃ l, st.length = l := ⟨_, rfl⟩
        rw [hl] at hc h2 h8 hlm
        clear hl
        go_enter Try.func28, Try.ntmps28
        go_wp2_with (go_at_call 26; refine hcon.out.mono ?_; rintro e w1 ⟨rfl, hb1⟩; have HB1 := hide hb1; have hc1 := cell_later hb1 hc; have hv1 := cell_later hb1 hv; clear hb1)
        have HB2 := hide (show Below w.heap.size w (w1.alloc (.cells #[] 92)) from HB1.out.alloc HB1.out.size _)
        go_ret
        exact ⟨rfl, K.out.below HB2.out, grownBy_of_below HB2.out _⟩
    · rw [hk] at hcon
      have e : fillS st (m : Int) xs = false := by unfold fillS; rw [hk]; simp
      have e2 : fillT st (m : Int) xs = st := by unfold fillT; rw [e]; rfl
      rw [e, e2]
      have hlm : decide (st.length ≤ m) = false := by simpa using hm
      clear k hi hr hw e e2 hk hm
      obtain ⟨l, hl⟩ : ∃ l, st.length = l := ⟨_, rfl⟩
      rw [hl] at hc h2 h8 hlm
      clear hl
      go_enter Try.func28, Try.ntmps28
      go_wp2_with (go_at_call 26; refine hcon.out.mono ?_; rintro e w1 ⟨rfl, hb1⟩; have HB1 := hide hb1; clear hb1)
      go_ret
      exact ⟨rfl, K.out.below HB1.out, grownBy_of_below HB1.out _⟩
end Go.Proofs.Ytiaifphidcfddaa
