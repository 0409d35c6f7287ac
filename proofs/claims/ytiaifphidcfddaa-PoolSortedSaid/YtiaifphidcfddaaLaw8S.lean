/-
  PoolSorted: the plain law, and the walk.
-/
import Derived.Test.YtiaifphidcfddaaSorted
import Derived.Test.YtiaifphidcfddaaLaw8o
set_option linter.unusedVariables false
set_option linter.unusedSimpArgs false
namespace Go.Proofs.Ytiaifphidcfddaa
open Go.RowKit Go.Shelf

theorem head_filter {xs : List Bk} {id : Int} : (xs.filter (fun x => x.1 == id)).head? = (xs.findIdx? (fun x => x.1 == id)).bind (xs[·]?) := by
  induction xs with
  | nil => simp
  | cons x xs ih =>
    rw [List.filter_cons, List.findIdx?_cons]
    cases hx : (x.1 == id) with
    | true => simp
    | false =>
      simp only [Bool.false_eq_true, if_false]
      rw [ih]
      cases xs.findIdx? (fun x => x.1 == id) with
      | none => simp
      | some i => simp

/-- What is found in a stable sort is what was found first. -/
theorem find_steq {xs ss : List Bk} (h : StEq xs ss) (id : Int) : (find xs id = -1 ∧ find ss id = -1) ∨ ∃ (k1 k2 : Nat) (x : Bk), find xs id = k1 ∧ find ss id = k2 ∧ xs[k1]? = some x ∧ ss[k2]? = some x := by
  have h1 := head_filter (xs := xs) (id := id)
  have h2 := head_filter (xs := ss) (id := id)
  rw [h.2 id, h2] at h1
  unfold find idx
  cases ha : xs.findIdx? (fun x => x.1 == id) with
  | none =>
    rw [ha] at h1
    cases hb : ss.findIdx? (fun x => x.1 == id) with
    | none => exact .inl ⟨rfl, rfl⟩
    | some j =>
      rw [hb] at h1
      have := (List.findIdx?_eq_some_iff_getElem.1 hb).1
      simp [this] at h1
  | some i =>
    have hi := (List.findIdx?_eq_some_iff_getElem.1 ha).1
    rw [ha] at h1
    cases hb : ss.findIdx? (fun x => x.1 == id) with
    | none => rw [hb] at h1; simp [hi] at h1
    | some j =>
      have hj := (List.findIdx?_eq_some_iff_getElem.1 hb).1
      rw [hb] at h1
      simp [hi, hj] at h1
      exact .inr ⟨i, j, xs[i], rfl, rfl, List.getElem?_eq_getElem hi, by rw [List.getElem?_eq_getElem hj, h1]⟩

theorem check_perm {xs ss : List Bk} (h : xs.Perm ss) : check ss = check xs := by
  have hz : check ss = 0 ↔ check xs = 0 := by
    rw [check_zero, check_zero]
    have h1 : (xs.map (·.1)).Nodup ↔ (ss.map (·.1)).Nodup := (h.map _).nodup_iff
    have h2 : (∀ x ∈ ss, bad x = false) ↔ ∀ x ∈ xs, bad x = false := ⟨fun g x hx => g x (h.mem_iff.1 hx), fun g x hx => g x (h.mem_iff.2 hx)⟩
    rw [← h1, h2, h.length_eq]
  have ht : ∀ l : List Bk, check l = 0 ∨ check l = 10 := fun l => by unfold check; split <;> simp
  rcases ht xs with g | g <;> rcases ht ss with g2 | g2
  · rw [g, g2]
  · have := hz.2 g; omega
  · have := hz.1 g2; omega
  · rw [g, g2]
theorem Wf.perm {xs ss : List Bk} (h : Wf xs) (hp : xs.Perm ss) : Wf ss := by
  intro j x hx
  obtain ⟨i, hi, e⟩ := List.getElem_of_mem (hp.mem_iff.2 (List.mem_of_getElem? hx))
  exact h i x (by rw [List.getElem?_eq_getElem hi, e])

def PostSn (a a8 : Option Addr) (n cap cap8 : Nat) : Nat → Value → World → Prop
  | 0, v, w => v = .int .i64 (-1 : Int)
  | 1, v, w => v = .slice a n cap
  | 2, v, w => v = .int .i64 (n : Int)
  | 3, v, w => v = .bool false
  | 4, v, w => v = .bool false
  | 5, v, w => v = .int .i64 (-1 : Int)
  | 6, v, w => v = .slice a8 n cap8
  | 7, v, w => v = .int .i64 (n : Int)
  | 8, v, w => v = .bool false
  | 9, v, w => v = .bool false
  | 10, v, w => v = .bool false
  | 11, v, w => v = .int .i64 (-1 : Int)
  | 12, v, w => v = .bool true
  | 13, v, w => v = .int .i64 (-1 : Int)
  | 14, v, w => v = .bool true
  | 15, v, w => v = .bool false
  | 16, v, w => v = .bool false
  | 17, v, w => v = .bool false
  | 18, v, w => v = .int .i64 (-1 : Int)
  | 19, v, w => v = .bool false
  | 20, v, w => v = .bool false
  | 21, v, w => v = undef
  | 22, v, w => v = undef
  | 23, v, w => v = undef
  | 24, v, w => v = undef
  | 25, v, w => v = undef
  | 26, v, w => v = undef
  | 27, v, w => v = undef
  | 28, v, w => v = undef
  | 29, v, w => v = undef
  | 30, v, w => v = .bool false
  | 31, v, w => v = .bool false
  | _, _, _ => True
theorem PostSn_st (a a8 : Option Addr) (n cap cap8 : Nat) (i : Nat) (v : Value) (w w' : World) (hP0 : PostSn a a8 n cap cap8 i v w) (hb : Below w.heap.size w w') : PostSn a a8 n cap cap8 i v w' := by
  match i with
  | 0 => exact hP0
  | 1 => exact hP0
  | 2 => exact hP0
  | 3 => exact hP0
  | 4 => exact hP0
  | 5 => exact hP0
  | 6 => exact hP0
  | 7 => exact hP0
  | 8 => exact hP0
  | 9 => exact hP0
  | 10 => exact hP0
  | 11 => exact hP0
  | 12 => exact hP0
  | 13 => exact hP0
  | 14 => exact hP0
  | 15 => exact hP0
  | 16 => exact hP0
  | 17 => exact hP0
  | 18 => exact hP0
  | 19 => exact hP0
  | 20 => exact hP0
  | 21 => exact hP0
  | 22 => exact hP0
  | 23 => exact hP0
  | 24 => exact hP0
  | 25 => exact hP0
  | 26 => exact hP0
  | 27 => exact hP0
  | 28 => exact hP0
  | 29 => exact hP0
  | 30 => exact hP0
  | 31 => exact hP0
  | _ + 32 => trivial
def PostSf (b1 o1 b2 o2 n cap cap8 k1 k2 : Nat) (x1 x2 : Int) : Nat → Value → World → Prop
  | 0, v, w => v = .int .i64 (k1 : Int)
  | 1, v, w => v = .slice (some ⟨b1, o1, none⟩) n cap
  | 2, v, w => v = .int .i64 (n : Int)
  | 3, v, w => v = .bool false
  | 4, v, w => v = .bool false
  | 5, v, w => v = .int .i64 (k2 : Int)
  | 6, v, w => v = .slice (some ⟨b2, o2, none⟩) n cap8
  | 7, v, w => v = .int .i64 (n : Int)
  | 8, v, w => v = .bool false
  | 9, v, w => v = .bool false
  | 10, v, w => v = .bool false
  | 11, v, w => v = .int .i64 (k1 : Int)
  | 12, v, w => v = .bool false
  | 13, v, w => v = .int .i64 (k2 : Int)
  | 14, v, w => v = .bool false
  | 15, v, w => v = .bool false
  | 16, v, w => v = .bool false
  | 17, v, w => v = .bool false
  | 18, v, w => v = .int .i64 (k1 : Int)
  | 19, v, w => v = .bool true
  | 20, v, w => v = .bool true
  | 21, v, w => v = .slice (some ⟨b1, o1, none⟩) n cap
  | 22, v, w => v = .int .i64 (k1 : Int)
  | 23, v, w => v = .pointer (some ⟨b1, o1 + k1 * 2, none⟩)
  | 24, v, w => v = .agg #[.int .i64 x1, .int .i64 x2]
  | 25, v, w => v = .slice (some ⟨b2, o2, none⟩) n cap8
  | 26, v, w => v = .int .i64 (k2 : Int)
  | 27, v, w => v = .pointer (some ⟨b2, o2 + k2 * 2, none⟩)
  | 28, v, w => v = .agg #[.int .i64 x1, .int .i64 x2]
  | 29, v, w => v = .bool false
  | 30, v, w => v = .bool false
  | 31, v, w => v = .bool false
  | _, _, _ => True
theorem PostSf_st (b1 o1 b2 o2 n cap cap8 k1 k2 : Nat) (x1 x2 : Int) (i : Nat) (v : Value) (w w' : World) (hP0 : PostSf b1 o1 b2 o2 n cap cap8 k1 k2 x1 x2 i v w) (hb : Below w.heap.size w w') : PostSf b1 o1 b2 o2 n cap cap8 k1 k2 x1 x2 i v w' := by
  match i with
  | 0 => exact hP0
  | 1 => exact hP0
  | 2 => exact hP0
  | 3 => exact hP0
  | 4 => exact hP0
  | 5 => exact hP0
  | 6 => exact hP0
  | 7 => exact hP0
  | 8 => exact hP0
  | 9 => exact hP0
  | 10 => exact hP0
  | 11 => exact hP0
  | 12 => exact hP0
  | 13 => exact hP0
  | 14 => exact hP0
  | 15 => exact hP0
  | 16 => exact hP0
  | 17 => exact hP0
  | 18 => exact hP0
  | 19 => exact hP0
  | 20 => exact hP0
  | 21 => exact hP0
  | 22 => exact hP0
  | 23 => exact hP0
  | 24 => exact hP0
  | 25 => exact hP0
  | 26 => exact hP0
  | 27 => exact hP0
  | 28 => exact hP0
  | 29 => exact hP0
  | 30 => exact hP0
  | 31 => exact hP0
  | _ + 32 => trivial

theorem PoolSorted_far (a : Option Addr) (n cap : Nat) (id : Int) (w : World) (hn : n ≤ maxLen) (hbig : ¬ n ≤ 60) :
    Calls Try.prog 11 #[.slice a n cap, .int .i64 id] w fun e w' => e = .returned (.bool true) ∧ Below w.heap.size w w' := by
  have h1 : (60 : Int) < (n : Int) := by omega
  unfold maxLen at hn
  go_enter Try.func11, Try.ntmps11
  go_wp2_with (go_at_call 32; refine (works_calls _).mono ?_; rintro e w' ⟨rfl, hb⟩)
  go_ret
  exact ⟨rfl, hb⟩

set_option maxRecDepth 100000 in
set_option maxHeartbeats 4000000 in
theorem PoolSorted_near (a : Option Addr) (n cap : Nat) (id : Int) (xs : List Bk) (w : World) (hr : Rd 2 bkc w a n xs) (hw : Wf xs) (hbig : n ≤ 60) :
    Calls Try.prog 11 #[.slice a n cap, .int .i64 id] w fun e w' => e = .returned (.bool true) ∧ Below w.heap.size w w' := by
  have hn : ¬ (60 : Int) < (n : Int) := by omega
  have hn2 := hr.le
  have HR := hide hr
  have HW := hide hw
  clear hr hw
  go_enter Try.func11, Try.ntmps11
  go_wp2_with (first
    | (go_at_call 32; refine (works_calls _).mono ?_; rintro e w1 ⟨rfl, hb⟩; have HC := hide hb; clear hb)
    | (go_at_call 34; refine (Sorted_calls _ _ _ _ _ (HR.out.below HC.out) (by omega)).mono ?_; rintro e w2 ⟨v, ss, rfl, ho, hs, hq, hb⟩; obtain ⟨a8, cap8, hv, hr8, _⟩ := ho.form bkc_len; rw [← hq.len, ← HR.out.len] at hv hr8; subst hv; have HV := hide hr8; have HS := hide hs; have HQ := hide hq; replace HC := hide (below_then HC.out HC.out.size hb); clear ho hr8 hs hq hb))
  go_loopg [7] (n + 1) (fun gg s7 wr => ∃ (k : Nat), 1 ≤ k ∧ (k ≤ n ∨ k = 1) ∧ n + 1 - k ≤ gg ∧ s7 = .int .i64 (k : Int) ∧ Hid (Below w2.heap.size w2 wr))
  case atStart => exact ⟨1, Nat.le_refl _, .inr rfl, by omega, rfl, Below.refl _ _⟩
  case round =>
    obtain ⟨k, hk1, hkn, hg, rfl, BW⟩ := hrel
    by_cases hlt : k < n
    · have hltz : (k : Int) < (n : Int) := by omega
      obtain ⟨b1, off, y1, y2, ha, hy, hb1, hc1, hc2⟩ := (HV.out.below BW.out).at_bk k hlt
      obtain ⟨j, hj⟩ : ∃ j, k = j + 1 := ⟨k - 1, by omega⟩
      obtain ⟨b2, off2, x1, x2, ha2, hx, hb2, hd1, hd2⟩ := (HV.out.below BW.out).at_bk j (by omega)
      rw [ha] at ha2
      cases ha2
      have hxy : ¬ y1 < x1 := by
        have := srt_le HS.out hx hy (by omega)
        have h2 : x1 ≤ y1 := this
        omega
      subst ha
      have hs1 : IntKind.i64.wrap ((k : Int) - 1) = (j : Int) := by rw [IntWalk.i64_in _ (by omega)]; omega
      have hjn : (j : Int) < (n : Int) := by omega
      clear hx hy hj hc2 hd2
      go_wp2
      go_quiet (fail)
      go_wp2
      go_roundg (n + 1 - (k + 1))
      case measure => omega
      case rel => exact ⟨k + 1, by omega, by omega, by omega, by go_num, (hide ⟨BW.out.os, BW.out.tape, BW.out.output, BW.out.size, BW.out.block⟩)⟩
    · have hltz : ¬ (k : Int) < (n : Int) := by omega
      replace HC := hide (below_then HC.out HC.out.size BW.out)
      replace HV := hide (HV.out.below BW.out)
      replace HR := hide (HR.out.below HC.out)
      have HLL := hide (show ss.length = n by rw [← HQ.out.len, HR.out.len])
      have hck := hide (check_perm HQ.out.1)
      have hwf := hide (HW.out.perm HQ.out.1)
      obtain ⟨cx, hcx⟩ : ∃ cx, check xs = cx := ⟨_, rfl⟩
      have HCX := hide hcx
      rcases find_steq HQ.out id with ⟨h1, h2⟩ | ⟨k1, k2, x, h1, h2, h3, h4⟩
      · have H1 := hide h1
        have H2 := hide h2
        clear h1 h2 hcx
        go_wp2_with (first
          | (go_at_call 29; (with_reducible show Calls _ _ #[.slice a _ _, _] _ _); refine (Find_calls _ _ _ _ _ _ HR.out).mono ?_; rintro e W0 ⟨rfl, hb⟩; rw [H1.out]; replace HR := hide (HR.out.below hb); replace HV := hide (HV.out.below hb); replace HC := hide (below_then HC.out HC.out.size hb); clear hb)
          | (go_at_call 29; refine (Find_calls _ _ _ _ _ _ HV.out).mono ?_; rintro e W1 ⟨rfl, hb⟩; rw [H2.out]; replace HR := hide (HR.out.below hb); replace HV := hide (HV.out.below hb); replace HC := hide (below_then HC.out HC.out.size hb); clear hb))
        refine wp_region_grow 96 [43, 44, 45, 46, 47, 48, 49, 50, 51, 52, 53, 54, 55, 56, 57, 58, 59, 60, 61, 62, 63, 64, 65, 66, 67, 68, 69, 70, 71, 72, 73, 74] (Below W1.heap.size W1) (PostSn a a8 n cap cap8) (by kernel_rfl) (by kernel_rfl) rfl (by kernel_rfl) (by kernel_rfl) (Below.refl _ _).drew (PostSn_st a a8 n cap cap8) ⟨⟨⟨⟨⟨⟨⟨⟨⟨⟨⟨⟨⟨⟨⟨⟨⟨⟨⟨⟨⟨⟨⟨⟨⟨⟨⟨⟨⟨⟨⟨⟨trivial, ?o0⟩, ?o1⟩, ?o2⟩, ?o3⟩, ?o4⟩, ?o5⟩, ?o6⟩, ?o7⟩, ?o8⟩, ?o9⟩, ?o10⟩, ?o11⟩, ?o12⟩, ?o13⟩, ?o14⟩, ?o15⟩, ?o16⟩, ?o17⟩, ?o18⟩, ?o19⟩, ?o20⟩, ?o21⟩, ?o22⟩, ?o23⟩, ?o24⟩, ?o25⟩, ?o26⟩, ?o27⟩, ?o28⟩, ?o29⟩, ?o30⟩, ?o31⟩ ?_
        case o0 =>
          intro g wr hB hk hp K hK
          have p8 : g 8 = .int .i64 (-1 : Int) := Option.some.inj (hk 8 (by decide) (by kernel_rfl))
          have HB := hide hB
          clear hB hk hp
          have e8 := actOf_get 96 g ([] : List Deferred) 8 (by omega) p8
          refine wpOp_free rfl rfl ?_
          go_simp
          exact hK _ _ (Below.refl _ _) HB.out (by first | rfl | simp)
        case o1 =>
          intro g wr hB hk hp K hK
          have p0 : g 0 = .slice a n cap := Option.some.inj (hk 0 (by decide) (by kernel_rfl))
          have HB := hide hB
          clear hB hk hp
          have e0 := actOf_get 96 g ([] : List Deferred) 0 (by omega) p0
          refine wpOp_free rfl rfl ?_
          go_simp
          exact hK _ _ (Below.refl _ _) HB.out (by first | rfl | simp)
        case o2 =>
          intro g wr hB hk hp K hK
          have p44 : g 44 = .slice a n cap := hp 1 (by kernel_rfl)
          have HB := hide hB
          clear hB hk hp
          have e44 := actOf_get 96 g ([] : List Deferred) 44 (by omega) p44
          refine wpOp_free rfl rfl ?_
          go_simp
          exact hK _ _ (Below.refl _ _) HB.out (by first | rfl | simp)
        case o3 =>
          intro g wr hB hk hp K hK
          have p43 : g 43 = .int .i64 (-1 : Int) := hp 0 (by kernel_rfl)
          have p45 : g 45 = .int .i64 (n : Int) := hp 2 (by kernel_rfl)
          have HB := hide hB
          clear hB hk hp
          have e43 := actOf_get 96 g ([] : List Deferred) 43 (by omega) p43
          have e45 := actOf_get 96 g ([] : List Deferred) 45 (by omega) p45
          refine wpOp_free rfl rfl ?_
          go_simp
          exact hK _ _ (Below.refl _ _) HB.out (by first | rfl | exact congrArg Value.bool (decide_eq_false (by omega)) | simp)
        case o4 =>
          intro g wr hB hk hp K hK
          have p46 : g 46 = .bool false := hp 3 (by kernel_rfl)
          have HB := hide hB
          clear hB hk hp
          have e46 := actOf_get 96 g ([] : List Deferred) 46 (by omega) p46
          refine wpOp_free rfl rfl ?_
          go_simp
          exact hK _ _ (Below.refl _ _) HB.out (by first | rfl | simp)
        case o5 =>
          intro g wr hB hk hp K hK
          have p9 : g 9 = .int .i64 (-1 : Int) := Option.some.inj (hk 9 (by decide) (by kernel_rfl))
          have pg : g 47 = .bool false := hp 4 (by kernel_rfl)
          have HB := hide hB
          clear hB hk hp
          have e9 := actOf_get 96 g ([] : List Deferred) 9 (by omega) p9
          refine wpOp_let rfl rfl (by kernel_rfl) (by omega) pg ?_
          clear pg
          go_simp
          exact hK _ _ (Below.refl _ _) HB.out (by first | rfl | simp)
        case o6 =>
          intro g wr hB hk hp K hK
          have p6 : g 6 = .slice a8 n cap8 := Option.some.inj (hk 6 (by decide) (by kernel_rfl))
          have pg : g 47 = .bool false := hp 4 (by kernel_rfl)
          have HB := hide hB
          clear hB hk hp
          have e6 := actOf_get 96 g ([] : List Deferred) 6 (by omega) p6
          refine wpOp_let rfl rfl (by kernel_rfl) (by omega) pg ?_
          clear pg
          go_simp
          exact hK _ _ (Below.refl _ _) HB.out (by first | rfl | simp)
        case o7 =>
          intro g wr hB hk hp K hK
          have p49 : g 49 = .slice a8 n cap8 := hp 6 (by kernel_rfl)
          have pg : g 47 = .bool false := hp 4 (by kernel_rfl)
          have HB := hide hB
          clear hB hk hp
          have e49 := actOf_get 96 g ([] : List Deferred) 49 (by omega) p49
          refine wpOp_let rfl rfl (by kernel_rfl) (by omega) pg ?_
          clear pg
          go_simp
          exact hK _ _ (Below.refl _ _) HB.out (by first | rfl | simp)
        case o8 =>
          intro g wr hB hk hp K hK
          have p48 : g 48 = .int .i64 (-1 : Int) := hp 5 (by kernel_rfl)
          have p50 : g 50 = .int .i64 (n : Int) := hp 7 (by kernel_rfl)
          have pg : g 47 = .bool false := hp 4 (by kernel_rfl)
          have HB := hide hB
          clear hB hk hp
          have e48 := actOf_get 96 g ([] : List Deferred) 48 (by omega) p48
          have e50 := actOf_get 96 g ([] : List Deferred) 50 (by omega) p50
          refine wpOp_let rfl rfl (by kernel_rfl) (by omega) pg ?_
          clear pg
          go_simp
          exact hK _ _ (Below.refl _ _) HB.out (by first | rfl | exact congrArg Value.bool (decide_eq_false (by omega)) | simp)
        case o9 =>
          intro g wr hB hk hp K hK
          have p47 : g 47 = .bool false := hp 4 (by kernel_rfl)
          have p51 : g 51 = .bool false := hp 8 (by kernel_rfl)
          have HB := hide hB
          clear hB hk hp
          have e47 := actOf_get 96 g ([] : List Deferred) 47 (by omega) p47
          have e51 := actOf_get 96 g ([] : List Deferred) 51 (by omega) p51
          refine wpOp_free rfl rfl ?_
          go_simp
          exact hK _ _ (Below.refl _ _) HB.out (by first | rfl | simp)
        case o10 =>
          intro g wr hB hk hp K hK
          have p52 : g 52 = .bool false := hp 9 (by kernel_rfl)
          have HB := hide hB
          clear hB hk hp
          have e52 := actOf_get 96 g ([] : List Deferred) 52 (by omega) p52
          refine wpOp_free rfl rfl ?_
          go_simp
          exact hK _ _ (Below.refl _ _) HB.out (by first | rfl | simp)
        case o11 =>
          intro g wr hB hk hp K hK
          have p8 : g 8 = .int .i64 (-1 : Int) := Option.some.inj (hk 8 (by decide) (by kernel_rfl))
          have pg : g 53 = .bool false := hp 10 (by kernel_rfl)
          have HB := hide hB
          clear hB hk hp
          have e8 := actOf_get 96 g ([] : List Deferred) 8 (by omega) p8
          refine wpOp_let rfl rfl (by kernel_rfl) (by omega) pg ?_
          clear pg
          go_simp
          exact hK _ _ (Below.refl _ _) HB.out (by first | rfl | simp)
        case o12 =>
          intro g wr hB hk hp K hK
          have p54 : g 54 = .int .i64 (-1 : Int) := hp 11 (by kernel_rfl)
          have pg : g 53 = .bool false := hp 10 (by kernel_rfl)
          have HB := hide hB
          clear hB hk hp
          have e54 := actOf_get 96 g ([] : List Deferred) 54 (by omega) p54
          refine wpOp_let rfl rfl (by kernel_rfl) (by omega) pg ?_
          clear pg
          go_simp
          exact hK _ _ (Below.refl _ _) HB.out (by first | rfl | exact congrArg Value.bool (decide_eq_false (by omega)) | simp)
        case o13 =>
          intro g wr hB hk hp K hK
          have p9 : g 9 = .int .i64 (-1 : Int) := Option.some.inj (hk 9 (by decide) (by kernel_rfl))
          have pg : g 53 = .bool false := hp 10 (by kernel_rfl)
          have HB := hide hB
          clear hB hk hp
          have e9 := actOf_get 96 g ([] : List Deferred) 9 (by omega) p9
          refine wpOp_let rfl rfl (by kernel_rfl) (by omega) pg ?_
          clear pg
          go_simp
          exact hK _ _ (Below.refl _ _) HB.out (by first | rfl | simp)
        case o14 =>
          intro g wr hB hk hp K hK
          have p56 : g 56 = .int .i64 (-1 : Int) := hp 13 (by kernel_rfl)
          have pg : g 53 = .bool false := hp 10 (by kernel_rfl)
          have HB := hide hB
          clear hB hk hp
          have e56 := actOf_get 96 g ([] : List Deferred) 56 (by omega) p56
          refine wpOp_let rfl rfl (by kernel_rfl) (by omega) pg ?_
          clear pg
          go_simp
          exact hK _ _ (Below.refl _ _) HB.out (by first | rfl | exact congrArg Value.bool (decide_eq_false (by omega)) | simp)
        case o15 =>
          intro g wr hB hk hp K hK
          have p55 : g 55 = .bool true := hp 12 (by kernel_rfl)
          have p57 : g 57 = .bool true := hp 14 (by kernel_rfl)
          have pg : g 53 = .bool false := hp 10 (by kernel_rfl)
          have HB := hide hB
          clear hB hk hp
          have e55 := actOf_get 96 g ([] : List Deferred) 55 (by omega) p55
          have e57 := actOf_get 96 g ([] : List Deferred) 57 (by omega) p57
          refine wpOp_let rfl rfl (by kernel_rfl) (by omega) pg ?_
          clear pg
          go_simp
          exact hK _ _ (Below.refl _ _) HB.out (by first | rfl | exact congrArg Value.bool (decide_eq_false (by omega)) | simp)
        case o16 =>
          intro g wr hB hk hp K hK
          have p53 : g 53 = .bool false := hp 10 (by kernel_rfl)
          have p58 : g 58 = .bool false := hp 15 (by kernel_rfl)
          have HB := hide hB
          clear hB hk hp
          have e53 := actOf_get 96 g ([] : List Deferred) 53 (by omega) p53
          have e58 := actOf_get 96 g ([] : List Deferred) 58 (by omega) p58
          refine wpOp_free rfl rfl ?_
          go_simp
          exact hK _ _ (Below.refl _ _) HB.out (by first | rfl | simp)
        case o17 =>
          intro g wr hB hk hp K hK
          have p59 : g 59 = .bool false := hp 16 (by kernel_rfl)
          have HB := hide hB
          clear hB hk hp
          have e59 := actOf_get 96 g ([] : List Deferred) 59 (by omega) p59
          refine wpOp_free rfl rfl ?_
          go_simp
          exact hK _ _ (Below.refl _ _) HB.out (by first | rfl | simp)
        case o18 =>
          intro g wr hB hk hp K hK
          have p8 : g 8 = .int .i64 (-1 : Int) := Option.some.inj (hk 8 (by decide) (by kernel_rfl))
          have pg : g 60 = .bool false := hp 17 (by kernel_rfl)
          have HB := hide hB
          clear hB hk hp
          have e8 := actOf_get 96 g ([] : List Deferred) 8 (by omega) p8
          refine wpOp_let rfl rfl (by kernel_rfl) (by omega) pg ?_
          clear pg
          go_simp
          exact hK _ _ (Below.refl _ _) HB.out (by first | rfl | simp)
        case o19 =>
          intro g wr hB hk hp K hK
          have p61 : g 61 = .int .i64 (-1 : Int) := hp 18 (by kernel_rfl)
          have pg : g 60 = .bool false := hp 17 (by kernel_rfl)
          have HB := hide hB
          clear hB hk hp
          have e61 := actOf_get 96 g ([] : List Deferred) 61 (by omega) p61
          refine wpOp_let rfl rfl (by kernel_rfl) (by omega) pg ?_
          clear pg
          go_simp
          exact hK _ _ (Below.refl _ _) HB.out (by first | rfl | exact congrArg Value.bool (decide_eq_false (by omega)) | simp)
        case o20 =>
          intro g wr hB hk hp K hK
          have p62 : g 62 = .bool false := hp 19 (by kernel_rfl)
          have pg : g 60 = .bool false := hp 17 (by kernel_rfl)
          have HB := hide hB
          clear hB hk hp
          have e62 := actOf_get 96 g ([] : List Deferred) 62 (by omega) p62
          refine wpOp_let rfl rfl (by kernel_rfl) (by omega) pg ?_
          clear pg
          go_simp
          exact hK _ _ (Below.refl _ _) HB.out (by first | rfl | simp)
        case o21 =>
          intro g wr hB hk hp K hK
          have pg : g 63 = .bool false := hp 20 (by kernel_rfl)
          exact wpOp_bar rfl rfl (by kernel_rfl) (by omega) pg (by decide) (hK undef wr (Below.refl _ _) hB rfl)
        case o22 =>
          intro g wr hB hk hp K hK
          have pg : g 63 = .bool false := hp 20 (by kernel_rfl)
          exact wpOp_bar rfl rfl (by kernel_rfl) (by omega) pg (by decide) (hK undef wr (Below.refl _ _) hB rfl)
        case o23 =>
          intro g wr hB hk hp K hK
          have pg : g 63 = .bool false := hp 20 (by kernel_rfl)
          exact wpOp_bar rfl rfl (by kernel_rfl) (by omega) pg (by decide) (hK undef wr (Below.refl _ _) hB rfl)
        case o24 =>
          intro g wr hB hk hp K hK
          have pg : g 63 = .bool false := hp 20 (by kernel_rfl)
          exact wpOp_bar rfl rfl (by kernel_rfl) (by omega) pg (by decide) (hK undef wr (Below.refl _ _) hB rfl)
        case o25 =>
          intro g wr hB hk hp K hK
          have pg : g 63 = .bool false := hp 20 (by kernel_rfl)
          exact wpOp_bar rfl rfl (by kernel_rfl) (by omega) pg (by decide) (hK undef wr (Below.refl _ _) hB rfl)
        case o26 =>
          intro g wr hB hk hp K hK
          have pg : g 63 = .bool false := hp 20 (by kernel_rfl)
          exact wpOp_bar rfl rfl (by kernel_rfl) (by omega) pg (by decide) (hK undef wr (Below.refl _ _) hB rfl)
        case o27 =>
          intro g wr hB hk hp K hK
          have pg : g 63 = .bool false := hp 20 (by kernel_rfl)
          exact wpOp_bar rfl rfl (by kernel_rfl) (by omega) pg (by decide) (hK undef wr (Below.refl _ _) hB rfl)
        case o28 =>
          intro g wr hB hk hp K hK
          have pg : g 63 = .bool false := hp 20 (by kernel_rfl)
          exact wpOp_bar rfl rfl (by kernel_rfl) (by omega) pg (by decide) (hK undef wr (Below.refl _ _) hB rfl)
        case o29 =>
          intro g wr hB hk hp K hK
          have pg : g 63 = .bool false := hp 20 (by kernel_rfl)
          exact wpOp_bar rfl rfl (by kernel_rfl) (by omega) pg (by decide) (hK undef wr (Below.refl _ _) hB rfl)
        case o30 =>
          intro g wr hB hk hp K hK
          have p63 : g 63 = .bool false := hp 20 (by kernel_rfl)
          have p72 : g 72 = undef := hp 29 (by kernel_rfl)
          have pg : g 60 = .bool false := hp 17 (by kernel_rfl)
          have HB := hide hB
          clear hB hk hp
          have e63 := actOf_get 96 g ([] : List Deferred) 63 (by omega) p63
          have e72 := actOf_get 96 g ([] : List Deferred) 72 (by omega) p72
          refine wpOp_let rfl rfl (by kernel_rfl) (by omega) pg ?_
          clear pg
          go_simp
          exact hK _ _ (Below.refl _ _) HB.out (by first | rfl | simp)
        case o31 =>
          intro g wr hB hk hp K hK
          have p60 : g 60 = .bool false := hp 17 (by kernel_rfl)
          have p73 : g 73 = .bool false := hp 30 (by kernel_rfl)
          have HB := hide hB
          clear hB hk hp
          have e60 := actOf_get 96 g ([] : List Deferred) 60 (by omega) p60
          have e73 := actOf_get 96 g ([] : List Deferred) 73 (by omega) p73
          refine wpOp_free rfl rfl ?_
          go_simp
          exact hK _ _ (Below.refl _ _) HB.out (by first | rfl | simp)
        intro g wr hB hP
        have hp2 : g 74 = .bool false := hP 31 (by decide)
        have HB := hide hB
        clear hP hB
        simp only [putAll, Act.put, List.setIfInBounds_toArray, List.set_cons_zero, List.set_cons_succ, hp2]
        clear hp2
        replace HR := hide (HR.out.below HB.out)
        replace HV := hide (HV.out.below HB.out)
        replace HC := hide (below_then HC.out HC.out.size HB.out)
        clear HB
        have HC9 := hide (show (0 : Nat) = 0 from rfl)
        go_wp2_with (first
          | (go_at_call 26; (with_reducible show Calls _ _ #[.slice a _ _] _ _); refine (Check_calls _ _ _ _ _ HR.out HW.out (by omega)).mono ?_; rintro e w5 ⟨rfl, hb⟩; rw [HCX.out]; replace HV := hide (HV.out.below hb); replace HR := hide (HR.out.below hb); replace HC := hide (below_then HC.out HC.out.size hb); clear hb)
          | (go_at_call 26; refine (Check_calls _ _ _ _ _ HV.out hwf.out (by omega)).mono ?_; rintro e w5 ⟨rfl, hb⟩; rw [hck.out, HCX.out]; replace HV := hide (HV.out.below hb); replace HR := hide (HR.out.below hb); replace HC := hide (below_then HC.out HC.out.size hb); clear hb)
          | (go_at_call 34; refine (Sorted_calls _ _ _ _ _ HV.out (by omega)).mono ?_; rintro e w6 ⟨v, s2, rfl, ho, hs, hq, hb⟩; obtain rfl := StEq.unique HS.out hs hq; obtain ⟨a9, cap9, hv, hr9, _⟩ := ho.form bkc_len; subst hv; have HV9 := hide hr9; replace HV := hide (HV.out.below hb); replace HC := hide (below_then HC.out HC.out.size hb); clear ho hr9 hs hq hb)
          | (go_at_call 45; refine (Same_calls _ _ _ _ _ _ _ _ _ HV9.out HV.out).mono ?_; rintro e w7 ⟨rfl, hb⟩; rw [decide_eq_true rfl]; replace HC := hide (below_then HC.out HC.out.size hb); clear hb))
        go_ret
        exact ⟨rfl, HC.out⟩
      · obtain ⟨x1, x2⟩ := x
        have hl1 : k1 < n := by rw [HR.out.len]; exact (List.getElem?_eq_some_iff.1 h3).1
        have hl2 : k2 < n := by rw [← HLL.out]; exact (List.getElem?_eq_some_iff.1 h4).1
        have hz1 : (k1 : Int) < (n : Int) := by omega
        have hz2 : (k2 : Int) < (n : Int) := by omega
        have hz3 : ¬ (n : Int) ≤ (k1 : Int) := by omega
        have hz4 : ¬ (n : Int) ≤ (k2 : Int) := by omega
        have H1 := hide h1
        have H2 := hide h2
        have H3 := hide h3
        have H4 := hide h4
        clear h1 h2 hcx h3 h4
        go_wp2_with (first
          | (go_at_call 29; (with_reducible show Calls _ _ #[.slice a _ _, _] _ _); refine (Find_calls _ _ _ _ _ _ HR.out).mono ?_; rintro e W0 ⟨rfl, hb⟩; rw [H1.out]; replace HR := hide (HR.out.below hb); replace HV := hide (HV.out.below hb); replace HC := hide (below_then HC.out HC.out.size hb); clear hb)
          | (go_at_call 29; refine (Find_calls _ _ _ _ _ _ HV.out).mono ?_; rintro e W1 ⟨rfl, hb⟩; rw [H2.out]; replace HR := hide (HR.out.below hb); replace HV := hide (HV.out.below hb); replace HC := hide (below_then HC.out HC.out.size hb); clear hb))
        obtain ⟨b1, o1, z1, z2, ha, hx, hb1, hc1, hc2⟩ := HR.out.at_bk k1 hl1
        rw [H3.out] at hx
        obtain ⟨e1, e2⟩ : x1 = z1 ∧ x2 = z2 := by simpa using hx
        rw [← e1] at hc1
        rw [← e2] at hc2
        obtain ⟨b2, o2, z3, z4, ha2, hx2, hb2, hd1, hd2⟩ := HV.out.at_bk k2 hl2
        rw [H4.out] at hx2
        obtain ⟨e3, e4⟩ : x1 = z3 ∧ x2 = z4 := by simpa using hx2
        rw [← e3] at hd1
        rw [← e4] at hd2
        have HHA := hide ha
        have HHA2 := hide ha2
        have f11 := hide hc1
        have f12 := hide hc2
        have f21 := hide hd1
        have f22 := hide hd2
        clear hx hx2 e1 e2 e3 e4 hc1 hc2 hd1 hd2
        subst ha ha2
        refine wp_region_grow 96 [43, 44, 45, 46, 47, 48, 49, 50, 51, 52, 53, 54, 55, 56, 57, 58, 59, 60, 61, 62, 63, 64, 65, 66, 67, 68, 69, 70, 71, 72, 73, 74] (Below W1.heap.size W1) (PostSf b1 o1 b2 o2 n cap cap8 k1 k2 x1 x2) (by kernel_rfl) (by kernel_rfl) rfl (by kernel_rfl) (by kernel_rfl) (Below.refl _ _).drew (PostSf_st b1 o1 b2 o2 n cap cap8 k1 k2 x1 x2) ⟨⟨⟨⟨⟨⟨⟨⟨⟨⟨⟨⟨⟨⟨⟨⟨⟨⟨⟨⟨⟨⟨⟨⟨⟨⟨⟨⟨⟨⟨⟨⟨trivial, ?o0⟩, ?o1⟩, ?o2⟩, ?o3⟩, ?o4⟩, ?o5⟩, ?o6⟩, ?o7⟩, ?o8⟩, ?o9⟩, ?o10⟩, ?o11⟩, ?o12⟩, ?o13⟩, ?o14⟩, ?o15⟩, ?o16⟩, ?o17⟩, ?o18⟩, ?o19⟩, ?o20⟩, ?o21⟩, ?o22⟩, ?o23⟩, ?o24⟩, ?o25⟩, ?o26⟩, ?o27⟩, ?o28⟩, ?o29⟩, ?o30⟩, ?o31⟩ ?_
        case o0 =>
          intro g wr hB hk hp K hK
          have p8 : g 8 = .int .i64 (k1 : Int) := Option.some.inj (hk 8 (by decide) (by kernel_rfl))
          have HB := hide hB
          clear hB hk hp
          have e8 := actOf_get 96 g ([] : List Deferred) 8 (by omega) p8
          refine wpOp_free rfl rfl ?_
          go_simp
          exact hK _ _ (Below.refl _ _) HB.out (by first | rfl | simp)
        case o1 =>
          intro g wr hB hk hp K hK
          have p0 : g 0 = .slice (some ⟨b1, o1, none⟩) n cap := Option.some.inj (hk 0 (by decide) (by kernel_rfl))
          have HB := hide hB
          clear hB hk hp
          have e0 := actOf_get 96 g ([] : List Deferred) 0 (by omega) p0
          refine wpOp_free rfl rfl ?_
          go_simp
          exact hK _ _ (Below.refl _ _) HB.out (by first | rfl | simp)
        case o2 =>
          intro g wr hB hk hp K hK
          have p44 : g 44 = .slice (some ⟨b1, o1, none⟩) n cap := hp 1 (by kernel_rfl)
          have HB := hide hB
          clear hB hk hp
          have e44 := actOf_get 96 g ([] : List Deferred) 44 (by omega) p44
          refine wpOp_free rfl rfl ?_
          go_simp
          exact hK _ _ (Below.refl _ _) HB.out (by first | rfl | simp)
        case o3 =>
          intro g wr hB hk hp K hK
          have p43 : g 43 = .int .i64 (k1 : Int) := hp 0 (by kernel_rfl)
          have p45 : g 45 = .int .i64 (n : Int) := hp 2 (by kernel_rfl)
          have HB := hide hB
          clear hB hk hp
          have e43 := actOf_get 96 g ([] : List Deferred) 43 (by omega) p43
          have e45 := actOf_get 96 g ([] : List Deferred) 45 (by omega) p45
          refine wpOp_free rfl rfl ?_
          go_simp
          exact hK _ _ (Below.refl _ _) HB.out (by first | rfl | exact congrArg Value.bool (decide_eq_false (by omega)) | simp)
        case o4 =>
          intro g wr hB hk hp K hK
          have p46 : g 46 = .bool false := hp 3 (by kernel_rfl)
          have HB := hide hB
          clear hB hk hp
          have e46 := actOf_get 96 g ([] : List Deferred) 46 (by omega) p46
          refine wpOp_free rfl rfl ?_
          go_simp
          exact hK _ _ (Below.refl _ _) HB.out (by first | rfl | simp)
        case o5 =>
          intro g wr hB hk hp K hK
          have p9 : g 9 = .int .i64 (k2 : Int) := Option.some.inj (hk 9 (by decide) (by kernel_rfl))
          have pg : g 47 = .bool false := hp 4 (by kernel_rfl)
          have HB := hide hB
          clear hB hk hp
          have e9 := actOf_get 96 g ([] : List Deferred) 9 (by omega) p9
          refine wpOp_let rfl rfl (by kernel_rfl) (by omega) pg ?_
          clear pg
          go_simp
          exact hK _ _ (Below.refl _ _) HB.out (by first | rfl | simp)
        case o6 =>
          intro g wr hB hk hp K hK
          have p6 : g 6 = .slice (some ⟨b2, o2, none⟩) n cap8 := Option.some.inj (hk 6 (by decide) (by kernel_rfl))
          have pg : g 47 = .bool false := hp 4 (by kernel_rfl)
          have HB := hide hB
          clear hB hk hp
          have e6 := actOf_get 96 g ([] : List Deferred) 6 (by omega) p6
          refine wpOp_let rfl rfl (by kernel_rfl) (by omega) pg ?_
          clear pg
          go_simp
          exact hK _ _ (Below.refl _ _) HB.out (by first | rfl | simp)
        case o7 =>
          intro g wr hB hk hp K hK
          have p49 : g 49 = .slice (some ⟨b2, o2, none⟩) n cap8 := hp 6 (by kernel_rfl)
          have pg : g 47 = .bool false := hp 4 (by kernel_rfl)
          have HB := hide hB
          clear hB hk hp
          have e49 := actOf_get 96 g ([] : List Deferred) 49 (by omega) p49
          refine wpOp_let rfl rfl (by kernel_rfl) (by omega) pg ?_
          clear pg
          go_simp
          exact hK _ _ (Below.refl _ _) HB.out (by first | rfl | simp)
        case o8 =>
          intro g wr hB hk hp K hK
          have p48 : g 48 = .int .i64 (k2 : Int) := hp 5 (by kernel_rfl)
          have p50 : g 50 = .int .i64 (n : Int) := hp 7 (by kernel_rfl)
          have pg : g 47 = .bool false := hp 4 (by kernel_rfl)
          have HB := hide hB
          clear hB hk hp
          have e48 := actOf_get 96 g ([] : List Deferred) 48 (by omega) p48
          have e50 := actOf_get 96 g ([] : List Deferred) 50 (by omega) p50
          refine wpOp_let rfl rfl (by kernel_rfl) (by omega) pg ?_
          clear pg
          go_simp
          exact hK _ _ (Below.refl _ _) HB.out (by first | rfl | exact congrArg Value.bool (decide_eq_false (by omega)) | simp)
        case o9 =>
          intro g wr hB hk hp K hK
          have p47 : g 47 = .bool false := hp 4 (by kernel_rfl)
          have p51 : g 51 = .bool false := hp 8 (by kernel_rfl)
          have HB := hide hB
          clear hB hk hp
          have e47 := actOf_get 96 g ([] : List Deferred) 47 (by omega) p47
          have e51 := actOf_get 96 g ([] : List Deferred) 51 (by omega) p51
          refine wpOp_free rfl rfl ?_
          go_simp
          exact hK _ _ (Below.refl _ _) HB.out (by first | rfl | simp)
        case o10 =>
          intro g wr hB hk hp K hK
          have p52 : g 52 = .bool false := hp 9 (by kernel_rfl)
          have HB := hide hB
          clear hB hk hp
          have e52 := actOf_get 96 g ([] : List Deferred) 52 (by omega) p52
          refine wpOp_free rfl rfl ?_
          go_simp
          exact hK _ _ (Below.refl _ _) HB.out (by first | rfl | simp)
        case o11 =>
          intro g wr hB hk hp K hK
          have p8 : g 8 = .int .i64 (k1 : Int) := Option.some.inj (hk 8 (by decide) (by kernel_rfl))
          have pg : g 53 = .bool false := hp 10 (by kernel_rfl)
          have HB := hide hB
          clear hB hk hp
          have e8 := actOf_get 96 g ([] : List Deferred) 8 (by omega) p8
          refine wpOp_let rfl rfl (by kernel_rfl) (by omega) pg ?_
          clear pg
          go_simp
          exact hK _ _ (Below.refl _ _) HB.out (by first | rfl | simp)
        case o12 =>
          intro g wr hB hk hp K hK
          have p54 : g 54 = .int .i64 (k1 : Int) := hp 11 (by kernel_rfl)
          have pg : g 53 = .bool false := hp 10 (by kernel_rfl)
          have HB := hide hB
          clear hB hk hp
          have e54 := actOf_get 96 g ([] : List Deferred) 54 (by omega) p54
          refine wpOp_let rfl rfl (by kernel_rfl) (by omega) pg ?_
          clear pg
          go_simp
          exact hK _ _ (Below.refl _ _) HB.out (by first | rfl | exact congrArg Value.bool (decide_eq_false (by omega)) | simp)
        case o13 =>
          intro g wr hB hk hp K hK
          have p9 : g 9 = .int .i64 (k2 : Int) := Option.some.inj (hk 9 (by decide) (by kernel_rfl))
          have pg : g 53 = .bool false := hp 10 (by kernel_rfl)
          have HB := hide hB
          clear hB hk hp
          have e9 := actOf_get 96 g ([] : List Deferred) 9 (by omega) p9
          refine wpOp_let rfl rfl (by kernel_rfl) (by omega) pg ?_
          clear pg
          go_simp
          exact hK _ _ (Below.refl _ _) HB.out (by first | rfl | simp)
        case o14 =>
          intro g wr hB hk hp K hK
          have p56 : g 56 = .int .i64 (k2 : Int) := hp 13 (by kernel_rfl)
          have pg : g 53 = .bool false := hp 10 (by kernel_rfl)
          have HB := hide hB
          clear hB hk hp
          have e56 := actOf_get 96 g ([] : List Deferred) 56 (by omega) p56
          refine wpOp_let rfl rfl (by kernel_rfl) (by omega) pg ?_
          clear pg
          go_simp
          exact hK _ _ (Below.refl _ _) HB.out (by first | rfl | exact congrArg Value.bool (decide_eq_false (by omega)) | simp)
        case o15 =>
          intro g wr hB hk hp K hK
          have p55 : g 55 = .bool false := hp 12 (by kernel_rfl)
          have p57 : g 57 = .bool false := hp 14 (by kernel_rfl)
          have pg : g 53 = .bool false := hp 10 (by kernel_rfl)
          have HB := hide hB
          clear hB hk hp
          have e55 := actOf_get 96 g ([] : List Deferred) 55 (by omega) p55
          have e57 := actOf_get 96 g ([] : List Deferred) 57 (by omega) p57
          refine wpOp_let rfl rfl (by kernel_rfl) (by omega) pg ?_
          clear pg
          go_simp
          exact hK _ _ (Below.refl _ _) HB.out (by first | rfl | exact congrArg Value.bool (decide_eq_false (by omega)) | simp)
        case o16 =>
          intro g wr hB hk hp K hK
          have p53 : g 53 = .bool false := hp 10 (by kernel_rfl)
          have p58 : g 58 = .bool false := hp 15 (by kernel_rfl)
          have HB := hide hB
          clear hB hk hp
          have e53 := actOf_get 96 g ([] : List Deferred) 53 (by omega) p53
          have e58 := actOf_get 96 g ([] : List Deferred) 58 (by omega) p58
          refine wpOp_free rfl rfl ?_
          go_simp
          exact hK _ _ (Below.refl _ _) HB.out (by first | rfl | simp)
        case o17 =>
          intro g wr hB hk hp K hK
          have p59 : g 59 = .bool false := hp 16 (by kernel_rfl)
          have HB := hide hB
          clear hB hk hp
          have e59 := actOf_get 96 g ([] : List Deferred) 59 (by omega) p59
          refine wpOp_free rfl rfl ?_
          go_simp
          exact hK _ _ (Below.refl _ _) HB.out (by first | rfl | simp)
        case o18 =>
          intro g wr hB hk hp K hK
          have p8 : g 8 = .int .i64 (k1 : Int) := Option.some.inj (hk 8 (by decide) (by kernel_rfl))
          have pg : g 60 = .bool false := hp 17 (by kernel_rfl)
          have HB := hide hB
          clear hB hk hp
          have e8 := actOf_get 96 g ([] : List Deferred) 8 (by omega) p8
          refine wpOp_let rfl rfl (by kernel_rfl) (by omega) pg ?_
          clear pg
          go_simp
          exact hK _ _ (Below.refl _ _) HB.out (by first | rfl | simp)
        case o19 =>
          intro g wr hB hk hp K hK
          have p61 : g 61 = .int .i64 (k1 : Int) := hp 18 (by kernel_rfl)
          have pg : g 60 = .bool false := hp 17 (by kernel_rfl)
          have HB := hide hB
          clear hB hk hp
          have e61 := actOf_get 96 g ([] : List Deferred) 61 (by omega) p61
          refine wpOp_let rfl rfl (by kernel_rfl) (by omega) pg ?_
          clear pg
          go_simp
          exact hK _ _ (Below.refl _ _) HB.out (by first | rfl | exact congrArg Value.bool (decide_eq_false (by omega)) | simp)
        case o20 =>
          intro g wr hB hk hp K hK
          have p62 : g 62 = .bool true := hp 19 (by kernel_rfl)
          have pg : g 60 = .bool false := hp 17 (by kernel_rfl)
          have HB := hide hB
          clear hB hk hp
          have e62 := actOf_get 96 g ([] : List Deferred) 62 (by omega) p62
          refine wpOp_let rfl rfl (by kernel_rfl) (by omega) pg ?_
          clear pg
          go_simp
          exact hK _ _ (Below.refl _ _) HB.out (by first | rfl | simp)
        case o21 =>
          intro g wr hB hk hp K hK
          have p0 : g 0 = .slice (some ⟨b1, o1, none⟩) n cap := Option.some.inj (hk 0 (by decide) (by kernel_rfl))
          have pg : g 63 = .bool true := hp 20 (by kernel_rfl)
          have HB := hide hB
          clear hB hk hp
          have e0 := actOf_get 96 g ([] : List Deferred) 0 (by omega) p0
          refine wpOp_let rfl rfl (by kernel_rfl) (by omega) pg ?_
          clear pg
          go_simp
          exact hK _ _ (Below.refl _ _) HB.out (by first | rfl | simp)
        case o22 =>
          intro g wr hB hk hp K hK
          have p8 : g 8 = .int .i64 (k1 : Int) := Option.some.inj (hk 8 (by decide) (by kernel_rfl))
          have pg : g 63 = .bool true := hp 20 (by kernel_rfl)
          have HB := hide hB
          clear hB hk hp
          have e8 := actOf_get 96 g ([] : List Deferred) 8 (by omega) p8
          refine wpOp_let rfl rfl (by kernel_rfl) (by omega) pg ?_
          clear pg
          go_simp
          exact hK _ _ (Below.refl _ _) HB.out (by first | rfl | simp)
        case o23 =>
          intro g wr hB hk hp K hK
          have p64 : g 64 = .slice (some ⟨b1, o1, none⟩) n cap := hp 21 (by kernel_rfl)
          have p65 : g 65 = .int .i64 (k1 : Int) := hp 22 (by kernel_rfl)
          have pg : g 63 = .bool true := hp 20 (by kernel_rfl)
          have HB := hide hB
          clear hB hk hp
          have e64 := actOf_get 96 g ([] : List Deferred) 64 (by omega) p64
          have e65 := actOf_get 96 g ([] : List Deferred) 65 (by omega) p65
          refine wpOp_let rfl rfl (by kernel_rfl) (by omega) pg ?_
          clear pg
          go_simp
          exact hK _ _ (Below.refl _ _) HB.out (by first | rfl | simp)
        case o24 =>
          intro g wr hB hk hp K hK
          have p66 : g 66 = .pointer (some ⟨b1, o1 + k1 * 2, none⟩) := hp 23 (by kernel_rfl)
          have pg : g 63 = .bool true := hp 20 (by kernel_rfl)
          have HB := hide hB
          clear hB hk hp
          have lc0 := cell_later HB.out f11.out
          have lc1 := cell_later HB.out f12.out
          have e66 := actOf_get 96 g ([] : List Deferred) 66 (by omega) p66
          refine wpOp_let rfl rfl (by kernel_rfl) (by omega) pg ?_
          clear pg
          go_simp
          exact hK _ _ (Below.refl _ _) HB.out (by first | rfl | simp)
        case o25 =>
          intro g wr hB hk hp K hK
          have p6 : g 6 = .slice (some ⟨b2, o2, none⟩) n cap8 := Option.some.inj (hk 6 (by decide) (by kernel_rfl))
          have pg : g 63 = .bool true := hp 20 (by kernel_rfl)
          have HB := hide hB
          clear hB hk hp
          have e6 := actOf_get 96 g ([] : List Deferred) 6 (by omega) p6
          refine wpOp_let rfl rfl (by kernel_rfl) (by omega) pg ?_
          clear pg
          go_simp
          exact hK _ _ (Below.refl _ _) HB.out (by first | rfl | simp)
        case o26 =>
          intro g wr hB hk hp K hK
          have p9 : g 9 = .int .i64 (k2 : Int) := Option.some.inj (hk 9 (by decide) (by kernel_rfl))
          have pg : g 63 = .bool true := hp 20 (by kernel_rfl)
          have HB := hide hB
          clear hB hk hp
          have e9 := actOf_get 96 g ([] : List Deferred) 9 (by omega) p9
          refine wpOp_let rfl rfl (by kernel_rfl) (by omega) pg ?_
          clear pg
          go_simp
          exact hK _ _ (Below.refl _ _) HB.out (by first | rfl | simp)
        case o27 =>
          intro g wr hB hk hp K hK
          have p68 : g 68 = .slice (some ⟨b2, o2, none⟩) n cap8 := hp 25 (by kernel_rfl)
          have p69 : g 69 = .int .i64 (k2 : Int) := hp 26 (by kernel_rfl)
          have pg : g 63 = .bool true := hp 20 (by kernel_rfl)
          have HB := hide hB
          clear hB hk hp
          have e68 := actOf_get 96 g ([] : List Deferred) 68 (by omega) p68
          have e69 := actOf_get 96 g ([] : List Deferred) 69 (by omega) p69
          refine wpOp_let rfl rfl (by kernel_rfl) (by omega) pg ?_
          clear pg
          go_simp
          exact hK _ _ (Below.refl _ _) HB.out (by first | rfl | simp)
        case o28 =>
          intro g wr hB hk hp K hK
          have p70 : g 70 = .pointer (some ⟨b2, o2 + k2 * 2, none⟩) := hp 27 (by kernel_rfl)
          have pg : g 63 = .bool true := hp 20 (by kernel_rfl)
          have HB := hide hB
          clear hB hk hp
          have lc0 := cell_later HB.out f21.out
          have lc1 := cell_later HB.out f22.out
          have e70 := actOf_get 96 g ([] : List Deferred) 70 (by omega) p70
          refine wpOp_let rfl rfl (by kernel_rfl) (by omega) pg ?_
          clear pg
          go_simp
          exact hK _ _ (Below.refl _ _) HB.out (by first | rfl | simp)
        case o29 =>
          intro g wr hB hk hp K hK
          have p67 : g 67 = .agg #[.int .i64 x1, .int .i64 x2] := hp 24 (by kernel_rfl)
          have p71 : g 71 = .agg #[.int .i64 x1, .int .i64 x2] := hp 28 (by kernel_rfl)
          have pg : g 63 = .bool true := hp 20 (by kernel_rfl)
          have HB := hide hB
          clear hB hk hp
          have e67 := actOf_get 96 g ([] : List Deferred) 67 (by omega) p67
          have e71 := actOf_get 96 g ([] : List Deferred) 71 (by omega) p71
          refine wpOp_let rfl rfl (by kernel_rfl) (by omega) pg ?_
          clear pg
          have hgd := guard_bk
          have hneq := neq_bk
          have hdec : eqb x1 x2 x1 x2 = true := decide_eq_true rfl
          go_simp
          exact hK _ _ (Below.refl _ _) HB.out rfl
        case o30 =>
          intro g wr hB hk hp K hK
          have p63 : g 63 = .bool true := hp 20 (by kernel_rfl)
          have p72 : g 72 = .bool false := hp 29 (by kernel_rfl)
          have pg : g 60 = .bool false := hp 17 (by kernel_rfl)
          have HB := hide hB
          clear hB hk hp
          have e63 := actOf_get 96 g ([] : List Deferred) 63 (by omega) p63
          have e72 := actOf_get 96 g ([] : List Deferred) 72 (by omega) p72
          refine wpOp_let rfl rfl (by kernel_rfl) (by omega) pg ?_
          clear pg
          go_simp
          exact hK _ _ (Below.refl _ _) HB.out (by first | rfl | simp)
        case o31 =>
          intro g wr hB hk hp K hK
          have p60 : g 60 = .bool false := hp 17 (by kernel_rfl)
          have p73 : g 73 = .bool false := hp 30 (by kernel_rfl)
          have HB := hide hB
          clear hB hk hp
          have e60 := actOf_get 96 g ([] : List Deferred) 60 (by omega) p60
          have e73 := actOf_get 96 g ([] : List Deferred) 73 (by omega) p73
          refine wpOp_free rfl rfl ?_
          go_simp
          exact hK _ _ (Below.refl _ _) HB.out (by first | rfl | simp)
        intro g wr hB hP
        have hp2 : g 74 = .bool false := hP 31 (by decide)
        have HB := hide hB
        clear hP hB
        simp only [putAll, Act.put, List.setIfInBounds_toArray, List.set_cons_zero, List.set_cons_succ, hp2]
        clear hp2
        replace HR := hide (HR.out.below HB.out)
        replace HV := hide (HV.out.below HB.out)
        replace HC := hide (below_then HC.out HC.out.size HB.out)
        clear HB
        have HC9 := hide (show (0 : Nat) = 0 from rfl)
        go_wp2_with (first
          | (go_at_call 26; (with_reducible show Calls _ _ #[.slice (some ⟨b1, o1, none⟩) _ _] _ _); refine (Check_calls _ _ _ _ _ HR.out HW.out (by omega)).mono ?_; rintro e w5 ⟨rfl, hb⟩; rw [HCX.out]; replace HV := hide (HV.out.below hb); replace HR := hide (HR.out.below hb); replace HC := hide (below_then HC.out HC.out.size hb); clear hb)
          | (go_at_call 26; refine (Check_calls _ _ _ _ _ HV.out hwf.out (by omega)).mono ?_; rintro e w5 ⟨rfl, hb⟩; rw [hck.out, HCX.out]; replace HV := hide (HV.out.below hb); replace HR := hide (HR.out.below hb); replace HC := hide (below_then HC.out HC.out.size hb); clear hb)
          | (go_at_call 34; refine (Sorted_calls _ _ _ _ _ HV.out (by omega)).mono ?_; rintro e w6 ⟨v, s2, rfl, ho, hs, hq, hb⟩; obtain rfl := StEq.unique HS.out hs hq; obtain ⟨a9, cap9, hv, hr9, _⟩ := ho.form bkc_len; subst hv; have HV9 := hide hr9; replace HV := hide (HV.out.below hb); replace HC := hide (below_then HC.out HC.out.size hb); clear ho hr9 hs hq hb)
          | (go_at_call 45; refine (Same_calls _ _ _ _ _ _ _ _ _ HV9.out HV.out).mono ?_; rintro e w7 ⟨rfl, hb⟩; rw [decide_eq_true rfl]; replace HC := hide (below_then HC.out HC.out.size hb); clear hb))
        go_ret
        exact ⟨rfl, HC.out⟩

theorem PoolSorted_all (a : Option Addr) (n cap : Nat) (id : Int) (xs : List Bk) (w : World) (hr : Rd 2 bkc w a n xs) (hw : Wf xs) :
    Calls Try.prog 11 #[.slice a n cap, .int .i64 id] w fun e w' => e = .returned (.bool true) ∧ Below w.heap.size w w' := by
  by_cases h : n ≤ 60
  · exact PoolSorted_near a n cap id xs w hr hw h
  · exact PoolSorted_far a n cap id w hr.2.1 h
end Go.Proofs.Ytiaifphidcfddaa
