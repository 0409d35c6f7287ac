/-
  pool.Gone's contract, out of slices.Sort's.
-/
import Derived.Test.YtiaifphidcfddaaPool5
set_option linter.unusedVariables false
set_option linter.unusedSimpArgs false
namespace Go.Proofs.Ytiaifphidcfddaa
open Go.RowKit Go.Shelf Go.Maps

/-- What is asked of slices.Sort at []int: a row of the call's own is sorted in place. -/
def SortIntsSaid : Prop := ∀ (v : Value) (xs : List Int) (base : Nat) (w : World), Ow 1 i64c 3 base w v xs → xs.length < 4294967296 →
  Calls Try.prog 70 #[v] w fun e w' => e = .returned (.tuple #[]) ∧ Ow 1 i64c 3 base w' v (xs.mergeSort fun x y => decide (x ≤ y)) ∧ w.grownBy w' v.ownBlock

/-- The ids of xs that ys has not, once each, ascending. -/
def GoneIs (xs ys : List Bk) (r : List Int) : Prop := r.Pairwise (· < ·) ∧ ∀ y, y ∈ r ↔ ((seen xs y = true) ∧ (seen ys y = false))

theorem seen_mem (xs : List Bk) (y : Int) : seen xs y = true ↔ ∃ (j : Nat) (x : Bk), xs[j]? = some x ∧ x.1 = y := by
  unfold seen
  rw [List.any_eq_true]
  constructor
  · rintro ⟨x, hx, he⟩
    obtain ⟨j, hj, rfl⟩ := List.getElem_of_mem hx
    exact ⟨j, _, List.getElem?_eq_getElem hj, by simpa using he⟩
  · rintro ⟨j, x, hx, rfl⟩
    exact ⟨x, List.mem_of_getElem? hx, by simp⟩

theorem strict_of_sorted : ∀ (l : List Int), l.Pairwise (fun x y => decide (x ≤ y) = true) → l.Nodup → l.Pairwise (· < ·)
  | [], _, _ => List.Pairwise.nil
  | x :: r, hp, hn => by
    rw [List.pairwise_cons] at hp ⊢
    rw [List.nodup_cons] at hn
    refine ⟨fun y hy => ?_, strict_of_sorted r hp.2 hn.2⟩
    have h1 := hp.1 y hy
    simp only [decide_eq_true_eq] at h1
    have h2 : x ≠ y := fun e => hn.1 (e ▸ hy)
    omega

theorem goneIs_of (xs ys : List Bk) (l : List Int) (hnd : l.Nodup) (hm : ∀ y, y ∈ l ↔ ((seen xs y = true) ∧ (seen ys y = false))) : GoneIs xs ys (l.mergeSort fun x y => decide (x ≤ y)) := by
  have hp := List.mergeSort_perm l (fun x y => decide (x ≤ y))
  refine ⟨strict_of_sorted _ (List.pairwise_mergeSort (fun a b c h1 h2 => by simp at *; omega) (fun a b => by simp; omega) l) (hp.nodup_iff.2 hnd), fun y => ?_⟩
  rw [hp.mem_iff, hm]

/-- Behind k backends of the second pool. -/
def leftS (xs ys : List Bk) (k : Nat) (y : Int) : Bool := seen xs y && !seen (ys.take k) y

set_option maxRecDepth 100000 in
set_option maxHeartbeats 2000000 in
theorem Gone_calls (hS : SortIntsSaid) (a b : Option Addr) (n m cap cap2 : Nat) (xs ys : List Bk) (w : World) (hr : Rd 2 bkc w a n xs) (hr2 : Rd 2 bkc w b m ys) (hw : Wf xs) (hw2 : Wf ys) (hbig : n < 4294967295) :
    Calls Try.prog 41 #[.slice a n cap, .slice b m cap2] w fun e w' => ∃ v r, e = .returned v ∧ Ow 1 i64c 3 w.heap.size w' v r ∧ GoneIs xs ys r ∧ Below w.heap.size w w' := by
  have hn := hr.le
  have hn2 := hr2.le
  have HL := hide hr.len
  have HL2 := hide hr2.len
  have HR := hide hr
  have HR2 := hide hr2
  have HW := hide hw
  have HW2 := hide hw2
  have HS := hide hS
  clear hr hr2 hw hw2 hS
  have hmm := @run_makeMap Try.prog
  go_enter Try.func41, Try.ntmps41
  go_wp2
  clear hmm
  have hset := hide (SetAt.made w Try.prog 3 4)
  go_loopg [7, 15] n (fun gg _ s15 wr => ∃ kk : Nat, kk ≤ n ∧ n - kk ≤ gg ∧ s15 = .int .i64 kk ∧ Hid (Below w.heap.size w wr) ∧ Hid (SetAt Try.prog 3 4 wr w.heap.size kk (seen (xs.take kk))))
  case atStart => exact ⟨0, Nat.zero_le _, by omega, rfl, (Below.refl _ w).alloc (Nat.le_refl _) _, hset.out.congr (fun y => by simp [seen])⟩
  case round =>
    obtain ⟨kk, hkk, hg, rfl, BW, ST⟩ := hrel
    by_cases hlt : kk < n
    · have hltz : (kk : Int) < (n : Int) := by omega
      obtain ⟨b1, off, x1, x2, ha, hx, hb, hc1, hc2⟩ := (HR.out.below BW.out).at_bk kk hlt
      have HI1 := hide (HW.out kk _ hx).1
      have HX := hide hx
      clear hx
      subst ha
      go_wp2_with (at_mapUpdate; refine wpList_update_set MT rfl _ _ _ rfl (ST.out.alloc _) HI1.out (by omega) rfl rfl rfl ?_; intro w2 hst2 hg2; have hst2 := hide hst2; have hg2 := hide hg2)
      go_roundg (n - (kk + 1))
      case measure => omega
      case rel =>
        refine ⟨kk + 1, by omega, by omega, by go_num, (BW.out.alloc BW.out.size _).grown hg2.out (by have := BW.out.size; simp; omega) (fun j hj => by cases hj; exact Nat.le_refl _), hst2.out.congr (fun y => seen_snoc xs kk _ HX.out y)⟩
    · have hltz : ¬ (kk : Int) < (n : Int) := by omega
      have : kk = n := by omega
      subst this
      have ST1 : Hid (SetAt Try.prog 3 4 wr w.heap.size kk (leftS xs ys 0)) := hide (ST.out.congr (fun y => by rw [List.take_of_length_le (by have := HL.out; omega)]; simp [leftS, seen]))
      clear ST hset
      obtain ⟨wo, hwo⟩ : ∃ wo : World, wo = wr := ⟨_, rfl⟩
      subst hwo
      go_wp2
      go_loopg [9, 25] m (fun gg _ s25 wr => ∃ kq : Nat, kq ≤ m ∧ m - kq ≤ gg ∧ s25 = .int .i64 kq ∧ Hid (Below w.heap.size w wr) ∧ Hid (SetAt Try.prog 3 4 wr w.heap.size kk (leftS xs ys kq)))
      case atStart => exact ⟨0, Nat.zero_le _, by omega, rfl, BW.out, ST1.out⟩
      case round =>
        obtain ⟨kq, hkq, hgq, rfl, BW2, ST2⟩ := hrel
        by_cases hlt2 : kq < m
        · have hltz2 : (kq : Int) < (m : Int) := by omega
          obtain ⟨b1, off, x1, x2, ha, hx, hb, hc1, hc2⟩ := (HR2.out.below BW2.out).at_bk kq hlt2
          have HI1 := hide (HW2.out kq _ hx).1
          have HX := hide hx
          clear hx
          subst ha
          go_wp2_with (at_delete; refine wpList_delete_set MT rfl _ _ rfl (ST2.out.alloc _) HI1.out rfl rfl ?_; intro w2 hst2 hg2; have hst2 := hide hst2; have hg2 := hide hg2)
          go_roundg (m - (kq + 1))
          case measure => omega
          case rel =>
            refine ⟨kq + 1, by omega, by omega, by go_num, (BW2.out.alloc BW2.out.size _).grown hg2.out (by have := BW2.out.size; simp; omega) (fun j hj => by cases hj; exact Nat.le_refl _), hst2.out.congr (fun y => ?_)⟩
            have := seen_snoc ys kq _ HX.out y
            simp only [leftS]
            rw [← this]
            simp only at *
            cases hxy : y == x1 <;> cases seen xs y <;> cases seen (ys.take kq) y <;> simp_all
        · have hltz2 : ¬ (kq : Int) < (m : Int) := by omega
          have : kq = m := by omega
          subst this
          have ST3 : Hid (SetAt Try.prog 3 4 wr w.heap.size kk (fun y => seen xs y && !seen ys y)) := hide (ST2.out.congr (fun y => by simp only [leftS]; rw [List.take_of_length_le (by have := HL2.out; omega)]))
          clear ST2 ST1
          obtain ⟨wp, hwp⟩ : ∃ wp : World, wp = wr := ⟨_, rfl⟩
          subst hwp
          go_wp2_with (at_range; refine wpList_range_set MT rfl _ rfl ST3.out rfl ?_; intro w2 cnt hrg hcn hg2 hs2; have HRG := hide hrg; have HG2 := hide hg2; have HS2 := hide hs2; clear hrg hg2 hs2)
          go_loopg [10, 11] cnt (fun gg s10 _ wr => ∃ (l : List Int) (left : Int → Bool) (ct : Nat) (v : Value), s10 = v ∧ ct ≤ gg ∧ Hid (Ow 1 i64c 3 w.heap.size wr v l) ∧ Hid (RangeAt Try.prog 3 4 wr w.heap.size wp.heap.size kk (fun y => seen xs y && !seen ys y) left ct) ∧ Hid (l.Nodup) ∧ Hid (∀ y, I64 y → ((seen xs y && !seen ys y) = true ↔ (y ∈ l ∨ left y = true))) ∧ Hid (∀ y, y ∈ l → I64 y ∧ left y = false) ∧ Hid (l.length + ct ≤ kk) ∧ Hid (Below w.heap.size w wr))
          case atStart => exact ⟨[], _, cnt, _, rfl, Nat.le_refl _, Ow.nil, HRG.out, List.nodup_nil, (show ∀ y, I64 y → _ from fun y _ => by simp), (show ∀ y, y ∈ [] → _ from fun y hy => by cases hy), (show _ by simp; exact hcn), BW2.out.grown HG2.out BW2.out.size (fun j hj => by cases hj)⟩
          case round =>
            obtain ⟨l, left, ct, v, rfl, hct, OW, RG, ND, HS1, HS2', HLN, BW3⟩ := hrel
            obtain ⟨hne1, hne2⟩ := RG.out.apart OW.out
            have HNE1 := hide hne1
            have HNE2 := hide hne2
            clear hne1 hne2 HRG HG2 HS2
            have hlenl : l.length < 4294967296 := by have := HLN.out; omega
            go_wp2_with (first
              | (at_next; refine wpList_next_set MT rfl _ rfl wp.heap.size left ct rfl RG.out ?_ ?_; rotate_left; (intro x c w5 ct' hx hlf hSx hrg hlt' hgr hsz hen; have HX := hide hx; have HLF := hide hlf; have HSX := hide hSx; have HRG := hide hrg; have HGR := hide hgr; have OW5 := hide (OW.out.kept HGR.out (.inr (fun h => HNE2.out h.symm))); have hbs : w.heap.size ≤ w5.heap.size := (by have := BW3.out.size; omega); clear hx hlf hSx hrg hgr hsz); rotate_left; (intro h0 hl; have HLF := hide hl; clear h0 hl))
              | (go_at_call 70; refine (HS.out _ l w.heap.size wr OW.out hlenl).mono ?_; rintro e w4 ⟨rfl, ho4, hg4⟩; have HO4 := hide ho4; have HG4 := hide hg4; clear ho4 hg4)
              | (at_builtin; refine wpList_app1 El_int i64c i64c_len i64c_one rfl _ _ rfl w.heap.size u10 l x _ rfl rfl OW5.out rfl hbs (by omega) (by omega) ?_; intro v' w6 h1 h2 h3; have H1 := hide h1; have H2 := hide h2; have H3 := hide h3; clear h1 h2 h3))
            ·
              go_ret
              refine ⟨_, _, rfl, HO4.out, goneIs_of xs ys l ND.out (fun y => ?_), BW3.out.grown HG4.out BW3.out.size (fun j hj => (World.ownsRow.lt OW.out j hj).1)⟩
              by_cases hy : I64 y
              · have h1 := HS1.out y hy
                rw [HLF.out y hy] at h1
                simp only [Bool.false_eq_true, or_false, Bool.and_eq_true, Bool.not_eq_true'] at h1
                exact h1.symm
              · constructor
                · intro h; exact absurd (HS2'.out y h).1 hy
                · rintro ⟨h, _⟩
                  obtain ⟨j, x, hx, rfl⟩ := (seen_mem xs y).1 h
                  exact absurd (HW.out j x hx).1 hy
            ·
              have HNE3 := hide (HRG.out.apart OW5.out)
              go_roundg ct'
              case measure => omega
              case rel =>
                refine ⟨l ++ [x], (fun z => z != x && left z), ct', v', rfl, Nat.le_refl _, H1.out, HRG.out.kept H2.out HNE3.out.1 HNE3.out.2, ?_, (show ∀ y, I64 y → _ from fun y hy => ?_), (show ∀ y, y ∈ l ++ [x] → _ from fun y hy => ?_), ?_, ?_⟩
                · refine List.nodup_append.2 ⟨ND.out, by simp, fun a ha b hb => ?_⟩
                  simp only [List.mem_singleton] at hb
                  subst hb
                  rintro rfl
                  have := (HS2'.out a ha).2
                  rw [HLF.out] at this
                  cases this
                · rw [HS1.out y hy]
                  by_cases e : y = x
                  · subst e; simp [HLF.out]
                  · simp [e]
                · rw [List.mem_append] at hy
                  rcases hy with hy | hy
                  · exact ⟨(HS2'.out y hy).1, by simp [(HS2'.out y hy).2]⟩
                  · simp only [List.mem_singleton] at hy
                    subst hy
                    exact ⟨HX.out, by simp⟩
                · show (l ++ [x]).length + ct' ≤ kk
                  have := HLN.out
                  simp
                  omega
                · exact (BW3.out.grown HGR.out BW3.out.size (fun j hj => by cases hj; exact BW2.out.size)).trans H3.out
end Go.Proofs.Ytiaifphidcfddaa
