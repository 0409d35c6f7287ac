/-
  pool.Check's contract.
-/
import Derived.Test.YtiaifphidcfddaaPool
set_option linter.unusedVariables false
set_option linter.unusedSimpArgs false
namespace Go.Proofs.Ytiaifphidcfddaa
open Go.RowKit Go.Shelf Go.Maps

def Wf (xs : List Bk) : Prop := ∀ (j : Nat) (x : Bk), xs[j]? = some x → I64 x.1 ∧ I64 x.2
theorem MT : MapT Try.prog 87 3 4 := ⟨Try.underlying87, Try.underlying3, Try.underlying4, fun w => by kernel_rfl⟩

def bad (x : Bk) : Bool := [(x.1, (65535 : Int)), (x.2, (16 : Int))].any bad2
def seen (xs : List Bk) (y : Int) : Bool := xs.any (fun x => x.1 == y)
/-- Of a pool: is each backend new, and right? -/
def chk (xs : List Bk) : Bool := (List.range xs.length).all fun j => match xs[j]? with | some x => !seen (xs.take j) x.1 && !bad x | none => true
def check (xs : List Bk) : Int := if chk xs && decide (xs.length ≤ 32) then 0 else 10

theorem seen_snoc (xs : List Bk) (k : Nat) (x : Bk) (h : xs[k]? = some x) (y : Int) : (y == x.1 || seen (xs.take k) y) = seen (xs.take (k + 1)) y := by
  have : xs.take (k + 1) = xs.take k ++ [x] := by
    rw [List.take_add_one, h]; rfl
  rw [this]
  unfold seen
  rw [List.any_append, Bool.or_comm]
  simp only [List.any_cons, List.any_nil, Bool.or_false]
  rw [show (y == x.1) = (x.1 == y) from BEq.comm]
theorem chk_bad (xs : List Bk) (k : Nat) (x : Bk) (h : xs[k]? = some x) (hb : (seen (xs.take k) x.1 || bad x) = true) : check xs = 10 := by
  unfold check
  have : chk xs = false := by
    unfold chk
    rw [List.all_eq_false]
    refine ⟨k, by rw [List.mem_range]; exact (List.getElem?_eq_some_iff.1 h).1, ?_⟩
    rw [h]
    simp only [Bool.or_eq_true] at hb
    rcases hb with hb | hb <;> simp [hb]
  rw [this]; rfl
theorem chk_ok (xs : List Bk) (hb : ∀ k x, k < xs.length → xs[k]? = some x → (seen (xs.take k) x.1 || bad x) = false) : chk xs = true := by
  unfold chk
  rw [List.all_eq_true]
  intro k hk
  rw [List.mem_range] at hk
  have h := List.getElem?_eq_getElem hk
  rw [h]
  have := hb k _ hk h
  simp only [Bool.or_eq_false_iff] at this
  simp [this.1, this.2]

set_option maxHeartbeats 1000000 in
theorem Check_calls (a : Option Addr) (n cap : Nat) (xs : List Bk) (w : World) (hr : Rd 2 bkc w a n xs) (hw : Wf xs) (hbig : n < 4294967296) :
    Calls Try.prog 26 #[.slice a n cap] w fun e w' => e = .returned (.int .i64 (check xs)) ∧ Below w.heap.size w w' := by
  have hn := hr.le
  have HL := hide hr.len
  have HR := hide hr
  have HW := hide hw
  clear hr hw
  have hmm := @run_makeMap Try.prog
  go_enter Try.func26, Try.ntmps26
  go_wp2
  clear hmm
  have hset := hide (SetAt.made w Try.prog 3 4)
  go_loopg [5, 9] n (fun gg _ s9 wr => ∃ kk : Nat, kk ≤ n ∧ n - kk ≤ gg ∧ s9 = .int .i64 kk ∧ Hid (Below w.heap.size w wr) ∧ Hid (SetAt Try.prog 3 4 wr w.heap.size kk (seen (xs.take kk))) ∧ Hid (∀ j x, j < kk → xs[j]? = some x → (seen (xs.take j) x.1 || bad x) = false))
  case atStart => exact ⟨0, Nat.zero_le _, by omega, rfl, (Below.refl _ w).alloc (Nat.le_refl _) _, hset.out.congr (fun y => by simp [seen]), fun j x hj => absurd hj (Nat.not_lt_zero _)⟩
  case round =>
    obtain ⟨kk, hkk, hg, rfl, BW, ST, A⟩ := hrel
    by_cases hlt : kk < n
    · have hltz : (kk : Int) < (n : Int) := by omega
      obtain ⟨b, off, x1, x2, ha, hx, hb, hc1, hc2⟩ := (HR.out.below BW.out).at_bk kk hlt
      obtain ⟨hi1, hi2⟩ := HW.out kk _ hx
      have HI1 := hide hi1
      have HI2 := hide hi2
      have HX := hide hx
      clear hx hi1 hi2
      subst ha
      obtain ⟨s, hs⟩ : ∃ s, seen (xs.take kk) x1 = s := ⟨_, rfl⟩
      have HS := hide hs
      clear hs
      cases s with
      | true =>
        go_wp2_with (at_lookup; refine wpList_lookup_set MT rfl _ _ rfl (ST.out.alloc _) HI1.out rfl rfl ?_; rw [HS.out])
        go_ret
        exact ⟨by rw [chk_bad xs kk _ HX.out (by rw [HS.out]; rfl)]; rfl, BW.out.alloc BW.out.size _⟩
      | false =>
        go_wp2_with (at_lookup; refine wpList_lookup_set MT rfl _ _ rfl (ST.out.alloc _) HI1.out rfl rfl ?_; rw [HS.out])
        have hrd := Rd_fresh bkc_len (wr.alloc (.cells #[.int .i64 x1, .int .i64 x2] 56)) #[.int .i64 x1, .int .i64 65535, .int .i64 x2, .int .i64 16] 89 2 [(x1, 65535), (x2, 16)] rfl rfl (by omega) (wr.heap.size + 1) (by simp)
        refine (within_calls _ 2 2 _ _ hrd).mono ?_
        clear hrd
        rintro e w1 ⟨rfl, hb1⟩
        have hz1 : w1.cell? ⟨wr.heap.size, 0, none⟩ = some (.int .i64 x1) := (hb1.cell (p := ⟨wr.heap.size, 0, none⟩) (by simp <;> omega)).trans (by simp)
        have hst1 := hide (((ST.out.alloc (.cells #[.int .i64 x1, .int .i64 x2] 56)).alloc (.cells #[.int .i64 x1, .int .i64 65535, .int .i64 x2, .int .i64 16] 89)).below hb1)
        have hb2 := hide (below_then (((BW.out.alloc BW.out.size (.cells #[.int .i64 x1, .int .i64 x2] 56)).alloc (by have := BW.out.size; simp; omega) (.cells #[.int .i64 x1, .int .i64 65535, .int .i64 x2, .int .i64 16] 89))) (by have := BW.out.size; simp; omega) hb1)
        clear hb1
        obtain ⟨r, hr⟩ : ∃ r, bad (x1, x2) = r := ⟨_, rfl⟩
        have hr' : [(x1, (65535 : Int)), (x2, (16 : Int))].any bad2 = r := hr
        rw [hr']
        have HBD := hide hr
        clear hr hr'
        cases r with
        | true =>
          go_wp2
          go_ret
          exact ⟨by rw [chk_bad xs kk _ HX.out (by rw [HBD.out]; simp)]; rfl, hb2.out⟩
        | false =>
          go_wp2_with (at_mapUpdate; refine wpList_update_set MT rfl _ _ _ rfl hst1.out HI1.out (by omega) rfl rfl rfl ?_; intro w2 hst2 hg2; have hst2 := hide hst2; have hg2 := hide hg2)
          go_roundg (n - (kk + 1))
          case measure => omega
          case rel =>
            refine ⟨kk + 1, by omega, by omega, by go_num, hb2.out.grown hg2.out hb2.out.size (fun j hj => by cases hj; exact Nat.le_refl _), hst2.out.congr (fun y => seen_snoc xs kk _ HX.out y), (show Hid _ from fun j x hj hxj => ?_)⟩
            by_cases e : j = kk
            · subst e
              rw [HX.out] at hxj
              cases hxj
              rw [HS.out, HBD.out]; rfl
            · exact A.out j x (by omega) hxj
    · have hltz : ¬ (kk : Int) < (n : Int) := by omega
      have : kk = n := by omega
      subst this
      have hok := chk_ok xs (fun j x hj hx => A.out j x (by have := HL.out; omega) hx)
      by_cases h32 : (32 : Int) < (kk : Int)
      · have hfin := hide (show check xs = 10 by unfold check; rw [hok, decide_eq_false (by have := HL.out; omega)]; rfl)
        clear hok
        go_wp2
        go_ret
        exact ⟨by rw [hfin.out]; rfl, BW.out⟩
      · have hfin := hide (show check xs = 0 by unfold check; rw [hok, decide_eq_true (by have := HL.out; omega)]; rfl)
        clear hok
        go_wp2
        go_ret
        exact ⟨by rw [hfin.out]; rfl, BW.out⟩
end Go.Proofs.Ytiaifphidcfddaa
