/-
  The stable sort of backends, and pool.Sorted.
-/
import Derived.Test.YtiaifphidcfddaaSymC
import Derived.Test.YtiaifphidcfddaaStab1
set_option linter.unusedVariables false
set_option linter.unusedSimpArgs false
namespace Go.Proofs.Ytiaifphidcfddaa
open Go.RowKit Go.Shelf

/-- Sorted in blocks of k. -/
inductive BS (k : Nat) : List Bk → Prop
  | last {l : List Bk} : l.length ≤ k → Srt l → BS k l
  | cons {l r : List Bk} : l.length = k → Srt l → BS k r → BS k (l ++ r)

theorem BS.short {k : Nat} {v : List Bk} (h : BS k v) (hl : v.length ≤ k) : Srt v := by
  cases h with
  | last _ h => exact h
  | cons h1 h2 _ =>
    rename_i l r _
    have : r = [] := List.eq_nil_of_length_eq_zero (by rw [List.length_append] at hl; omega)
    rw [this, List.append_nil]; exact h2
theorem BS.split {k : Nat} {v : List Bk} (h : BS k v) (hl : k ≤ v.length) : ∃ l r, v = l ++ r ∧ l.length = k ∧ Srt l ∧ BS k r := by
  cases h with
  | last h1 h2 => exact ⟨v, [], by simp, by omega, h2, .last (Nat.zero_le _) List.Pairwise.nil⟩
  | cons h1 h2 h3 => exact ⟨_, _, rfl, h1, h2, h3⟩
/-- What stands ahead is whole blocks of k. -/
def Pre (k : Nat) (u : List Bk) : Prop := ∀ t, BS k t → BS k (u ++ t)
theorem Pre.snoc {k : Nat} {u s : List Bk} (h : Pre k u) (hl : s.length = k) (hs : Srt s) : Pre k (u ++ s) := fun t ht => by
  rw [List.append_assoc]; exact h _ (.cons hl hs ht)

set_option maxRecDepth 100000 in
set_option maxHeartbeats 8000000 in
theorem Stable_calls (b n cap base : Nat) (xs : List Bk) (w : World) (ho : Ow 2 bkc 56 base w (.slice (some ⟨b, 0, none⟩) n cap) xs) (hn : n ≤ 262144) :
    Calls Try.prog 101 #[.slice (some ⟨b, 0, none⟩) n cap, .int .i64 (n : Int), .func (.func 66) #[] #[]] w fun e' w' => e' = .returned (.tuple #[]) ∧
      ∃ s', Ow 2 bkc 56 base w' (.slice (some ⟨b, 0, none⟩) n cap) s' ∧ Srt s' ∧ StEq xs s' ∧ w.grownBy w' (some b) := by
  have hnl := ho.len_bk
  have HO := hide ho
  have HN := hide hnl
  clear ho hnl
  go_enter Try.func101, Try.ntmps101
  go_wp2
  go_loopg [7, 8] n (fun gg s7 s8 wr => ∃ (a : Nat) (u v : List Bk), a ≤ n ∧ n - a ≤ gg ∧ s7 = .int .i64 (a : Int) ∧ s8 = .int .i64 ((a : Int) + 20) ∧ Hid (a = u.length) ∧ Hid (Ow 2 bkc 56 base wr (.slice (some ⟨b, 0, none⟩) n cap) (u ++ v)) ∧ Hid (Pre 20 u) ∧ Hid (StEq xs (u ++ v)) ∧ Hid (w.grownBy wr (some b)))
  case atStart => exact ⟨0, [], xs, Nat.zero_le _, Nat.le_refl _, rfl, by go_num, (hide rfl), HO, (hide (fun t h => h)), (hide (StEq.refl _)), World.grownBy.refl _ _⟩
  case round =>
    obtain ⟨a, u, v, han, hg, rfl, rfl, AL, OW, PR, SE, GB⟩ := hrel
    have hvl := hide (show n = a + v.length by have h1 := OW.out.len_bk; rw [List.length_append] at h1; have := AL.out; omega)
    obtain ⟨wo, hwo⟩ : ∃ wo, wo = wr := ⟨_, rfl⟩
    subst hwo
    by_cases hlt : a + 20 ≤ n
    · have hltz : (a : Int) + 20 ≤ (n : Int) := by omega
      obtain ⟨v1, v2, hv, hv1⟩ : ∃ v1 v2, v = v1 ++ v2 ∧ v1.length = 20 := ⟨v.take 20, v.drop 20, (List.take_append_drop _ _).symm, by rw [List.length_take]; have := hvl.out; omega⟩
      subst hv
      obtain ⟨E, hE⟩ : ∃ E, E = a + 20 := ⟨_, rfl⟩
      have hEz := hide (show (a : Int) + 20 = (E : Int) by omega)
      have HCON := hide (Ins_calls b n cap base a E u v1 v2 wo (by simpa using OW.out) AL.out (by omega) (by omega))
      have HV1 := hide hv1
      have hEn : E ≤ n := by omega
      clear hE hv1
      go_wp2_with (go_at_call 122; rw [hEz.out]; refine HCON.out.mono ?_; rintro e' w' ⟨rfl, s', ho2, hs2, hq2, hg2⟩; have HO2 := hide ho2; have HG2 := hide hg2; have HS2 := hide (And.intro hs2 hq2); clear ho2 hg2 hs2 hq2)
      have hsl := hide (show s'.length = 20 by rw [← HS2.out.2.len]; exact HV1.out)
      go_wp2
      go_roundg (n - (a + 20))
      case measure => omega
      case rel => exact ⟨a + 20, u ++ s', v2, hlt, Nat.le_refl _, congrArg (Value.int .i64) (by have := hEz.out; omega), congrArg (Value.int .i64) (by have := hEz.out; omega), (hide (by rw [List.length_append, hsl.out, AL.out])), (hide HO2.out), (hide (PR.out.snoc hsl.out HS2.out.1)), (hide (by
          refine SE.out.trans ?_
          have := ((StEq.refl u).append (HS2.out.2.append (StEq.refl v2)))
          simpa using this)), grownBy_step GB.out HG2.out⟩
    · have hltz : ¬ (a : Int) + 20 ≤ (n : Int) := by omega
      have HCON := hide (Ins_calls b n cap base a n u v [] wo (by simpa using OW.out) AL.out hvl.out (by omega))
      have hvs := hide (show v.length ≤ 20 by have := hvl.out; omega)
      go_wp2_with (go_at_call 122; refine HCON.out.mono ?_; rintro e' w' ⟨rfl, s', ho2, hs2, hq2, hg2⟩; have HO2 := hide ho2; have HG2 := hide hg2; have HS2 := hide (And.intro hs2 hq2); clear ho2 hg2 hs2 hq2)
      obtain ⟨zs0, hzs⟩ : ∃ zs0, zs0 = u ++ s' := ⟨_, rfl⟩
      have hB : BS 20 zs0 ∧ StEq xs zs0 ∧ Ow 2 bkc 56 base w' (.slice (some ⟨b, 0, none⟩) n cap) zs0 ∧ w.grownBy w' (some b) := by
        rw [hzs]
        exact ⟨PR.out _ (.last (by rw [← HS2.out.2.len]; exact hvs.out) HS2.out.1), SE.out.trans ((StEq.refl u).append HS2.out.2), by simpa using HO2.out, grownBy_step GB.out HG2.out⟩
      have HB := hide hB
      clear hzs hB HO2 HG2 HS2 HCON hvs
      obtain ⟨wp, hwp⟩ : ∃ wp, wp = w' := ⟨_, rfl⟩
      subst hwp
      go_wp2
      go_loopg [6, 7, 8, 9] (2 * n + 40) (fun gg s6 _ _ _ wr => ∃ (k : Nat) (zs : List Bk), 20 ≤ k ∧ k ≤ 2 * n + 20 ∧ 2 * n + 40 - k ≤ gg ∧ s6 = .int .i64 (k : Int) ∧ Hid (BS k zs) ∧ Hid (StEq xs zs) ∧ Hid (Ow 2 bkc 56 base wr (.slice (some ⟨b, 0, none⟩) n cap) zs) ∧ Hid (w.grownBy wr (some b)))
      case atStart => exact ⟨20, zs0, Nat.le_refl _, by omega, by omega, rfl, (hide HB.out.1), (hide HB.out.2.1), (hide HB.out.2.2.1), HB.out.2.2.2⟩
      case round =>
        obtain ⟨k, zs, hk20, hkn, hg2, rfl, HBS, HSE, HOW, HGB⟩ := hrel
        obtain ⟨wq, hwq⟩ : ∃ wq, wq = wr := ⟨_, rfl⟩
        subst hwq
        by_cases hkl : k < n
        · have hklz : (k : Int) < (n : Int) := by omega
          go_wp2
          go_loopg [7, 8] n (fun gg s7 s8 wr => ∃ (a : Nat) (u v : List Bk), a ≤ n ∧ n - a ≤ gg ∧ s7 = .int .i64 (a : Int) ∧ s8 = .int .i64 ((a : Int) + 2 * (k : Int)) ∧ Hid (a = u.length) ∧ Hid (Ow 2 bkc 56 base wr (.slice (some ⟨b, 0, none⟩) n cap) (u ++ v)) ∧ Hid (Pre (2 * k) u) ∧ Hid (BS k v) ∧ Hid (StEq xs (u ++ v)) ∧ Hid (w.grownBy wr (some b)))
          case atStart => exact ⟨0, [], zs, Nat.zero_le _, Nat.le_refl _, rfl, by go_num, (hide rfl), HOW, (hide (fun t h => h)), HBS, HSE, HGB⟩
          case round =>
            obtain ⟨a, u, v, han, hg3, rfl, rfl, AL, OW, PR, VB, SE, GB⟩ := hrel
            have hvl := hide (show n = a + v.length by have h1 := OW.out.len_bk; rw [List.length_append] at h1; have := AL.out; omega)
            obtain ⟨wo, hwo⟩ : ∃ wo, wo = wr := ⟨_, rfl⟩
            subst hwo
            by_cases hlt2 : a + 2 * k ≤ n
            · have hltz2 : (a : Int) + 2 * (k : Int) ≤ (n : Int) := by omega
              obtain ⟨l1, r1, hv, hl1, hs1, hb1⟩ := VB.out.split (by have := hvl.out; omega)
              subst hv
              obtain ⟨l2, r2, hv2, hl2, hs2, hb2⟩ := hb1.split (by have := hvl.out; rw [List.length_append] at this; omega)
              subst hv2
              obtain ⟨m, hm⟩ : ∃ m, m = a + k := ⟨_, rfl⟩
              obtain ⟨E, hE⟩ : ∃ E, E = a + 2 * k := ⟨_, rfl⟩
              have hmz := hide (show (a : Int) + (k : Int) = (m : Int) by omega)
              have hEz := hide (show (a : Int) + 2 * (k : Int) = (E : Int) by omega)
              have HCON := hide (Sym_calls (2 * k) b n cap base a m E u l1 l2 r2 wo OW.out AL.out (by omega) (by omega) hs1 hs2 (by omega) (by omega) (by omega) (by omega))
              have HL := hide (And.intro hl1 hl2)
              have HB2 := hide hb2
              have hEn : E ≤ n := by omega
              clear hE hm hl1 hl2 hs1 hs2 hb1 hb2
              go_wp2_with (go_at_call 123; rw [hmz.out, hEz.out]; refine HCON.out.mono ?_; rintro e' w' ⟨rfl, s', ho2, hs2, hq2, hg2⟩; have HO2 := hide ho2; have HG2 := hide hg2; have HS2 := hide (And.intro hs2 hq2); clear ho2 hg2 hs2 hq2)
              have hsl := hide (show s'.length = 2 * k by rw [← HS2.out.2.len, List.length_append, HL.out.1, HL.out.2]; omega)
              go_wp2
              go_roundg (n - (a + 2 * k))
              case measure => omega
              case rel => exact ⟨a + 2 * k, u ++ s', r2, hlt2, Nat.le_refl _, congrArg (Value.int .i64) (by have := hEz.out; omega), congrArg (Value.int .i64) (by have := hEz.out; omega), (hide (by rw [List.length_append, hsl.out, AL.out])), (hide (by simpa using HO2.out)), (hide (PR.out.snoc hsl.out HS2.out.1)), HB2, (hide (by
                  refine SE.out.trans ?_
                  have := ((StEq.refl u).append (HS2.out.2.append (StEq.refl r2)))
                  simpa using this)), grownBy_step GB.out HG2.out⟩
            · have hltz2 : ¬ (a : Int) + 2 * (k : Int) ≤ (n : Int) := by omega
              by_cases hmn : a + k < n
              · have hmnz : (a : Int) + (k : Int) < (n : Int) := by omega
                obtain ⟨l1, r1, hv, hl1, hs1, hb1⟩ := VB.out.split (by have := hvl.out; omega)
                subst hv
                have hr1 : r1.length ≤ k ∧ 0 < r1.length := by have := hvl.out; rw [List.length_append] at this; omega
                obtain ⟨m, hm⟩ : ∃ m, m = a + k := ⟨_, rfl⟩
                have hmz := hide (show (a : Int) + (k : Int) = (m : Int) by omega)
                have HCON := hide (Sym_calls (2 * k) b n cap base a m n u l1 r1 [] wo (by simpa using OW.out) AL.out (by omega) (by have := hvl.out; rw [List.length_append] at this; omega) hs1 (hb1.short hr1.1) (by omega) hr1.2 (by omega) (by omega))
                have HL := hide (show l1.length + r1.length ≤ 2 * k by omega)
                have hmn2 : m < n := by omega
                clear hm hl1 hs1 hb1 hr1
                go_wp2_with (go_at_call 123; (try rw [hmz.out]); refine HCON.out.mono ?_; rintro e' w' ⟨rfl, s', ho2, hs2, hq2, hg2⟩; have HO2 := hide ho2; have HG2 := hide hg2; have HS2 := hide (And.intro hs2 hq2); clear ho2 hg2 hs2 hq2)
                go_wp2
                go_roundg (2 * n + 40 - 2 * k)
                case measure => omega
                case rel => exact ⟨2 * k, u ++ s', by omega, by omega, Nat.le_refl _, congrArg (Value.int .i64) (by omega), (hide (PR.out _ (.last (by rw [← HS2.out.2.len, List.length_append]; exact HL.out) HS2.out.1))), (hide (SE.out.trans ((StEq.refl u).append HS2.out.2))), (hide (by simpa using HO2.out)), grownBy_step GB.out HG2.out⟩
              · have hmnz : ¬ (a : Int) + (k : Int) < (n : Int) := by omega
                have HV := hide (show v.length ≤ k by have := hvl.out; omega)
                go_wp2
                go_roundg (2 * n + 40 - 2 * k)
                case measure => omega
                case rel => exact ⟨2 * k, u ++ v, by omega, by omega, Nat.le_refl _, congrArg (Value.int .i64) (by omega), (hide (PR.out _ (.last (by have := HV.out; omega) (VB.out.short HV.out)))), SE, OW, GB.out⟩
        · have hklz : ¬ (k : Int) < (n : Int) := by omega
          go_wp2
          go_end0
          exact ⟨rfl, zs, HOW.out, HBS.out.short (by have := HOW.out.len_bk; omega), HSE.out, HGB.out⟩
end Go.Proofs.Ytiaifphidcfddaa
