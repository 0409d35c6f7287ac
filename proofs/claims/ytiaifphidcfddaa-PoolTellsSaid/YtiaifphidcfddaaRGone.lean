/-
  The reference's Gone of layer 8.
-/
import Derived.Test.YtiaifphidcfddaaRef8c
import Derived.Test.YtiaifphidcfddaaGrow2
import Derived.Test.YtiaifphidcfddaaGone
import Derived.Test.YtiaifphidcfddaaSymC
import Derived.IntWalk
set_option linter.unusedVariables false
set_option linter.unusedSimpArgs false
namespace Go.Proofs.Ytiaifphidcfddaa
open Go.RowKit Go.Shelf

theorem GoneIs.unique {xs ys : List Bk} {r r' : List Int} (h : GoneIs xs ys r) (k : GoneIs xs ys r') : r = r' := by
  have hm : ∀ y, y ∈ r ↔ y ∈ r' := fun y => (h.2 y).trans (k.2 y).symm
  have key : ∀ (u v : List Int), u.Pairwise (· < ·) → v.Pairwise (· < ·) → (∀ y, y ∈ u ↔ y ∈ v) → u = v := by
    intro u
    induction u with
    | nil => intro v _ _ hm; cases v with | nil => rfl | cons y v => exact absurd ((hm y).2 (by simp)) (by simp)
    | cons x u ih =>
      intro v hu hv hm
      cases v with
      | nil => exact absurd ((hm x).1 (by simp)) (by simp)
      | cons y v =>
        have hu' := List.pairwise_cons.1 hu
        have hv' := List.pairwise_cons.1 hv
        have hxy : x = y := by
          have h1 := (hm x).1 (by simp)
          have h2 := (hm y).2 (by simp)
          rcases List.mem_cons.1 h1 with e | e
          · exact e
          · rcases List.mem_cons.1 h2 with e2 | e2
            · exact e2.symm
            · have := hv'.1 x e; have := hu'.1 y e2; omega
        subst hxy
        rw [ih v hu'.2 hv'.2 (fun z => ?_)]
        have hz := hm z
        constructor
        · intro hzu
          have : x < z := hu'.1 z hzu
          rcases List.mem_cons.1 (hz.1 (List.mem_cons_of_mem _ hzu)) with e | e
          · omega
          · exact e
        · intro hzv
          have : x < z := hv'.1 z hzv
          rcases List.mem_cons.1 (hz.2 (List.mem_cons_of_mem _ hzv)) with e | e
          · omega
          · exact e
  exact key r r' h.1 k.1 hm

/-- What has been put out when kk of the sorted ones have been looked at. -/
def GoneTill (ss ys : List Bk) (kk : Nat) (r : List Int) : Prop := r.Pairwise (· < ·) ∧ ∀ y, y ∈ r ↔ (∃ (j : Nat) (x : Bk), j < kk ∧ ss[j]? = some x ∧ x.1 = y) ∧ seen ys y = false

theorem GoneTill.skip {ss ys : List Bk} {kk : Nat} {r : List Int} {x : Bk} (h : GoneTill ss ys kk r) (hx : ss[kk]? = some x) (hs : seen ys x.1 = true ∨ ∃ (j : Nat) (y : Bk), j < kk ∧ ss[j]? = some y ∧ y.1 = x.1) : GoneTill ss ys (kk + 1) r := by
  refine ⟨h.1, fun y => (h.2 y).trans ⟨fun ⟨⟨j, z, h1, h2, h3⟩, h4⟩ => ⟨⟨j, z, by omega, h2, h3⟩, h4⟩, fun ⟨⟨j, z, h1, h2, h3⟩, h4⟩ => ⟨?_, h4⟩⟩⟩
  by_cases e : j = kk
  · subst e
    rw [hx] at h2
    cases h2
    rcases hs with hs | ⟨j2, y2, g1, g2, g3⟩
    · rw [h3, h4] at hs; cases hs
    · exact ⟨j2, y2, g1, g2, g3.trans h3⟩
  · exact ⟨j, z, by omega, h2, h3⟩
theorem GoneTill.put {ss ys : List Bk} {kk : Nat} {r : List Int} {x : Bk} (h : GoneTill ss ys kk r) (hS : Srt ss) (hx : ss[kk]? = some x) (hs : seen ys x.1 = false) (hp : ∀ (m : Nat) (y : Bk), kk = m + 1 → ss[m]? = some y → y.1 ≠ x.1) : GoneTill ss ys (kk + 1) (r ++ [x.1]) := by
  have hlt : ∀ y ∈ r, y < x.1 := by
    intro y hy
    obtain ⟨⟨j, z, h1, h2, h3⟩, _⟩ := (h.2 y).1 hy
    obtain ⟨m, hm⟩ : ∃ m, kk = m + 1 := ⟨kk - 1, by omega⟩
    have hml : m < ss.length := by have := (List.getElem?_eq_some_iff.1 hx).1; omega
    have e1 := srt_le hS h2 (List.getElem?_eq_getElem hml) (by omega)
    have e2 := srt_le hS (List.getElem?_eq_getElem hml) hx (by omega)
    have e3 := hp m _ hm (List.getElem?_eq_getElem hml)
    omega
  refine ⟨List.pairwise_append.2 ⟨h.1, List.pairwise_singleton _ _, fun y hy z hz => by simp at hz; subst hz; exact hlt y hy⟩, fun y => ?_⟩
  rw [List.mem_append, h.2 y, List.mem_singleton]
  constructor
  · rintro (⟨⟨j, z, h1, h2, h3⟩, h4⟩ | rfl)
    · exact ⟨⟨j, z, by omega, h2, h3⟩, h4⟩
    · exact ⟨⟨kk, x, by omega, hx, rfl⟩, hs⟩
  · rintro ⟨⟨j, z, h1, h2, h3⟩, h4⟩
    by_cases e : j = kk
    · subst e
      rw [hx] at h2
      cases h2
      exact .inr h3.symm
    · exact .inl ⟨⟨j, z, by omega, h2, h3⟩, h4⟩
theorem GoneTill.all {xs ss ys : List Bk} {r : List Int} (h : GoneTill ss ys ss.length r) (hp : xs.Perm ss) : GoneIs xs ys r := by
  refine ⟨h.1, fun y => (h.2 y).trans ⟨fun ⟨⟨j, z, h1, h2, h3⟩, h4⟩ => ⟨?_, h4⟩, fun ⟨h3, h4⟩ => ⟨?_, h4⟩⟩⟩
  · unfold seen
    rw [List.any_eq_true]
    exact ⟨z, hp.mem_iff.2 (List.mem_of_getElem? h2), by simp [h3]⟩
  · unfold seen at h3
    rw [List.any_eq_true] at h3
    obtain ⟨z, hz, he⟩ := h3
    obtain ⟨j, hj, rfl⟩ := List.getElem_of_mem (hp.mem_iff.1 hz)
    exact ⟨j, _, hj, List.getElem?_eq_getElem hj, by simpa using he⟩

def PgA (b : Option Addr) (m cap2 g5 o5 n cap5 kk : Nat) (x1 f : Int) : Nat → Value → World → Prop
  | 0, v, w => v = .slice b m cap2
  | 1, v, w => v = .slice (some ⟨g5, o5, none⟩) n cap5
  | 2, v, w => v = .int .i64 (kk : Int)
  | 3, v, w => v = .pointer (some ⟨g5, o5 + kk * 2, none⟩)
  | 4, v, w => v = .pointer (some ⟨g5, o5 + kk * 2, none⟩)
  | 5, v, w => v = .int .i64 x1
  | 6, v, w => v = .int .i64 f
  | 7, v, w => v = .bool false
  | 8, v, w => v = .bool false
  | 9, v, w => v = undef
  | 10, v, w => v = undef
  | 11, v, w => v = undef
  | 12, v, w => v = undef
  | 13, v, w => v = undef
  | 14, v, w => v = undef
  | 15, v, w => v = undef
  | 16, v, w => v = undef
  | 17, v, w => v = undef
  | 18, v, w => v = undef
  | 19, v, w => v = undef
  | 20, v, w => v = undef
  | 21, v, w => v = undef
  | 22, v, w => v = undef
  | 23, v, w => v = undef
  | 24, v, w => v = undef
  | 25, v, w => v = .bool false
  | _, _, _ => True
theorem PgA_st (b : Option Addr) (m cap2 g5 o5 n cap5 kk : Nat) (x1 f : Int) (i : Nat) (v : Value) (w w' : World) (hP0 : PgA b m cap2 g5 o5 n cap5 kk x1 f i v w) (hb : Below w.heap.size w w') : PgA b m cap2 g5 o5 n cap5 kk x1 f i v w' := by
  match i with
  | 0 => exact hP0
  | 1 => exact hP0
  | 2 => exact hP0
  | 3 => exact hP0
  | 4 => exact hP0
  | 5 => exact hP0
  | 6 => exact hP0
  | 7 => exact hP0
  | 8 => exact hP0
  | 9 => exact hP0
  | 10 => exact hP0
  | 11 => exact hP0
  | 12 => exact hP0
  | 13 => exact hP0
  | 14 => exact hP0
  | 15 => exact hP0
  | 16 => exact hP0
  | 17 => exact hP0
  | 18 => exact hP0
  | 19 => exact hP0
  | 20 => exact hP0
  | 21 => exact hP0
  | 22 => exact hP0
  | 23 => exact hP0
  | 24 => exact hP0
  | 25 => exact hP0
  | _ + 26 => trivial
def PgB (b : Option Addr) (m cap2 g5 o5 n cap5 : Nat) (x1 f : Int) : Nat → Value → World → Prop
  | 0, v, w => v = .slice b m cap2
  | 1, v, w => v = .slice (some ⟨g5, o5, none⟩) n cap5
  | 2, v, w => v = .int .i64 (((0 : Nat) : Int) : Int)
  | 3, v, w => v = .pointer (some ⟨g5, o5, none⟩)
  | 4, v, w => v = .pointer (some ⟨g5, o5, none⟩)
  | 5, v, w => v = .int .i64 x1
  | 6, v, w => v = .int .i64 f
  | 7, v, w => v = .bool true
  | 8, v, w => v = .bool true
  | 9, v, w => v = .int .i64 (((0 : Nat) : Int) : Int)
  | 10, v, w => v = .bool true
  | 11, v, w => v = .bool true
  | 12, v, w => v = undef
  | 13, v, w => v = undef
  | 14, v, w => v = undef
  | 15, v, w => v = undef
  | 16, v, w => v = undef
  | 17, v, w => v = undef
  | 18, v, w => v = undef
  | 19, v, w => v = undef
  | 20, v, w => v = undef
  | 21, v, w => v = undef
  | 22, v, w => v = undef
  | 23, v, w => v = undef
  | 24, v, w => v = .bool true
  | 25, v, w => v = .bool true
  | _, _, _ => True
theorem PgB_st (b : Option Addr) (m cap2 g5 o5 n cap5 : Nat) (x1 f : Int) (i : Nat) (v : Value) (w w' : World) (hP0 : PgB b m cap2 g5 o5 n cap5 x1 f i v w) (hb : Below w.heap.size w w') : PgB b m cap2 g5 o5 n cap5 x1 f i v w' := by
  match i with
  | 0 => exact hP0
  | 1 => exact hP0
  | 2 => exact hP0
  | 3 => exact hP0
  | 4 => exact hP0
  | 5 => exact hP0
  | 6 => exact hP0
  | 7 => exact hP0
  | 8 => exact hP0
  | 9 => exact hP0
  | 10 => exact hP0
  | 11 => exact hP0
  | 12 => exact hP0
  | 13 => exact hP0
  | 14 => exact hP0
  | 15 => exact hP0
  | 16 => exact hP0
  | 17 => exact hP0
  | 18 => exact hP0
  | 19 => exact hP0
  | 20 => exact hP0
  | 21 => exact hP0
  | 22 => exact hP0
  | 23 => exact hP0
  | 24 => exact hP0
  | 25 => exact hP0
  | _ + 26 => trivial
def PgC (b : Option Addr) (m cap2 g5 o5 n cap5 kk : Nat) (x1 f : Int) (m1 : Nat) (y1 : Int) (z : Bool) : Nat → Value → World → Prop
  | 0, v, w => v = .slice b m cap2
  | 1, v, w => v = .slice (some ⟨g5, o5, none⟩) n cap5
  | 2, v, w => v = .int .i64 (kk : Int)
  | 3, v, w => v = .pointer (some ⟨g5, o5 + kk * 2, none⟩)
  | 4, v, w => v = .pointer (some ⟨g5, o5 + kk * 2, none⟩)
  | 5, v, w => v = .int .i64 x1
  | 6, v, w => v = .int .i64 f
  | 7, v, w => v = .bool true
  | 8, v, w => v = .bool true
  | 9, v, w => v = .int .i64 (kk : Int)
  | 10, v, w => v = .bool false
  | 11, v, w => v = .bool false
  | 12, v, w => v = .slice (some ⟨g5, o5, none⟩) n cap5
  | 13, v, w => v = .int .i64 (kk : Int)
  | 14, v, w => v = .int .i64 (m1 : Int)
  | 15, v, w => v = .pointer (some ⟨g5, o5 + m1 * 2, none⟩)
  | 16, v, w => v = .pointer (some ⟨g5, o5 + m1 * 2, none⟩)
  | 17, v, w => v = .int .i64 y1
  | 18, v, w => v = .slice (some ⟨g5, o5, none⟩) n cap5
  | 19, v, w => v = .int .i64 (kk : Int)
  | 20, v, w => v = .pointer (some ⟨g5, o5 + kk * 2, none⟩)
  | 21, v, w => v = .pointer (some ⟨g5, o5 + kk * 2, none⟩)
  | 22, v, w => v = .int .i64 x1
  | 23, v, w => v = .bool z
  | 24, v, w => v = .bool z
  | 25, v, w => v = .bool z
  | _, _, _ => True
theorem PgC_st (b : Option Addr) (m cap2 g5 o5 n cap5 kk : Nat) (x1 f : Int) (m1 : Nat) (y1 : Int) (z : Bool) (i : Nat) (v : Value) (w w' : World) (hP0 : PgC b m cap2 g5 o5 n cap5 kk x1 f m1 y1 z i v w) (hb : Below w.heap.size w w') : PgC b m cap2 g5 o5 n cap5 kk x1 f m1 y1 z i v w' := by
  match i with
  | 0 => exact hP0
  | 1 => exact hP0
  | 2 => exact hP0
  | 3 => exact hP0
  | 4 => exact hP0
  | 5 => exact hP0
  | 6 => exact hP0
  | 7 => exact hP0
  | 8 => exact hP0
  | 9 => exact hP0
  | 10 => exact hP0
  | 11 => exact hP0
  | 12 => exact hP0
  | 13 => exact hP0
  | 14 => exact hP0
  | 15 => exact hP0
  | 16 => exact hP0
  | 17 => exact hP0
  | 18 => exact hP0
  | 19 => exact hP0
  | 20 => exact hP0
  | 21 => exact hP0
  | 22 => exact hP0
  | 23 => exact hP0
  | 24 => exact hP0
  | 25 => exact hP0
  | _ + 26 => trivial

set_option maxRecDepth 100000 in
set_option maxHeartbeats 4000000 in
theorem RGone_calls (a b : Option Addr) (n m cap cap2 : Nat) (xs ys : List Bk) (w : World) (hr : Rd 2 bkc w a n xs) (hr2 : Rd 2 bkc w b m ys) (hbig : n < 4294967292) :
    Calls Try.prog 42 #[.slice a n cap, .slice b m cap2] w fun e w' => ∃ v r, e = .returned v ∧ Ow 1 i64c 3 w.heap.size w' v r ∧ GoneIs xs ys r ∧ Below w.heap.size w w' := by
  have hn := hr.le
  have HR := hide hr
  have HR2 := hide hr2
  clear hr hr2
  go_enter Try.func42, Try.ntmps42
  go_wp2_with (go_at_call 35; refine (RSorted_calls _ _ _ _ _ HR.out hbig).mono ?_; rintro e w1 ⟨v, ss, rfl, ho, hs, hq, hb⟩; obtain ⟨a5, cap5, hv, hr5, _⟩ := ho.form bkc_len; rw [← hq.len, ← HR.out.len] at hv hr5; subst hv; have HV := hide hr5; have HS := hide hs; have HQ := hide hq; have HC := hide hb; clear ho hr5 hs hq hb)
  go_loopg [6, 7] n (fun gg s6 s7 wr => ∃ (kk : Nat) (v : Value) (r : List Int), kk ≤ n ∧ n - kk ≤ gg ∧ s7 = .int .i64 kk ∧ v = s6 ∧ Hid (Below w1.heap.size w1 wr) ∧ Hid (Ow 1 i64c 3 w1.heap.size wr v r) ∧ Hid (GoneTill ss ys kk r) ∧ r.length ≤ kk)
  case atStart => exact ⟨0, _, [], Nat.zero_le _, by omega, rfl, rfl, Below.refl _ _, (hide Ow.nil), (hide ⟨List.Pairwise.nil, fun y => by simp⟩), Nat.le_refl _⟩
  case round =>
    obtain ⟨kk, v, r, hkk, hg, rfl, rfl, BW, OW, GT, hrl⟩ := hrel
    obtain ⟨wq, hwq⟩ : ∃ wq, wq = wr := ⟨_, rfl⟩
    subst hwq
    by_cases hlt : kk < n
    · have hltz : (kk : Int) < (n : Int) := by omega
      have hkm : (kk : Int) ≤ 9223372036854775807 := by omega
      obtain ⟨g5, o5, x1, x2, ha, hx, hb5, hc1, hc2⟩ := (HV.out.below BW.out).at_bk kk hlt
      have HX := hide hx
      have fx1 := hide hc1
      have fx2 := hide hc2
      obtain ⟨f, hf⟩ : ∃ f, find ys x1 = f := ⟨_, rfl⟩
      have HF := hide hf
      have hfs := find_seen ys x1
      rw [hf] at hfs
      have HFS := hide hfs
      have HRY := hide (HR2.out.below (below_then HC.out HC.out.size BW.out))
      have hll := hide (show r.length < 4294967296 by omega)
      clear hx hc1 hc2 hf hfs
      by_cases hf0 : 0 ≤ f
      · have hsn := hide (HFS.out.1 hf0)
        subst ha
        go_wp2
        refine wp_region_grow 51 [16, 17, 18, 19, 20, 21, 22, 23, 24, 25, 26, 27, 28, 29, 30, 31, 32, 33, 34, 35, 36, 37, 38, 39, 40, 41] (Below wq.heap.size wq) (PgA b m cap2 g5 o5 n cap5 kk x1 f) (by kernel_rfl) (by kernel_rfl) rfl (by kernel_rfl) (by kernel_rfl) (Below.refl _ _).drew (PgA_st b m cap2 g5 o5 n cap5 kk x1 f) ⟨⟨⟨⟨⟨⟨⟨⟨⟨⟨⟨⟨⟨⟨⟨⟨⟨⟨⟨⟨⟨⟨⟨⟨⟨⟨trivial, ?o0⟩, ?o1⟩, ?o2⟩, ?o3⟩, ?o4⟩, ?o5⟩, ?o6⟩, ?o7⟩, ?o8⟩, ?o9⟩, ?o10⟩, ?o11⟩, ?o12⟩, ?o13⟩, ?o14⟩, ?o15⟩, ?o16⟩, ?o17⟩, ?o18⟩, ?o19⟩, ?o20⟩, ?o21⟩, ?o22⟩, ?o23⟩, ?o24⟩, ?o25⟩ ?_
        case o0 =>
          intro g wr hB hk hp K hK
          have p1 : g 1 = .slice b m cap2 := Option.some.inj (hk 1 (by decide) (by kernel_rfl))
          have HB := hide hB
          clear hB hk hp
          have e1 := actOf_get 51 g ([] : List Deferred) 1 (by omega) p1
          refine wpOp_free rfl rfl ?_
          go_simp
          exact hK _ _ (Below.refl _ _) HB.out (by first | rfl | simp)
        case o1 =>
          intro g wr hB hk hp K hK
          have p5 : g 5 = .slice (some ⟨g5, o5, none⟩) n cap5 := Option.some.inj (hk 5 (by decide) (by kernel_rfl))
          have HB := hide hB
          clear hB hk hp
          have e5 := actOf_get 51 g ([] : List Deferred) 5 (by omega) p5
          refine wpOp_free rfl rfl ?_
          go_simp
          exact hK _ _ (Below.refl _ _) HB.out (by first | rfl | simp)
        case o2 =>
          intro g wr hB hk hp K hK
          have p7 : g 7 = .int .i64 (kk : Int) := Option.some.inj (hk 7 (by decide) (by kernel_rfl))
          have HB := hide hB
          clear hB hk hp
          have e7 := actOf_get 51 g ([] : List Deferred) 7 (by omega) p7
          refine wpOp_free rfl rfl ?_
          go_simp
          exact hK _ _ (Below.refl _ _) HB.out (by first | rfl | simp)
        case o3 =>
          intro g wr hB hk hp K hK
          have p17 : g 17 = .slice (some ⟨g5, o5, none⟩) n cap5 := hp 1 (by kernel_rfl)
          have p18 : g 18 = .int .i64 (kk : Int) := hp 2 (by kernel_rfl)
          have HB := hide hB
          clear hB hk hp
          have e17 := actOf_get 51 g ([] : List Deferred) 17 (by omega) p17
          have e18 := actOf_get 51 g ([] : List Deferred) 18 (by omega) p18
          refine wpOp_free rfl rfl ?_
          go_simp
          exact hK _ _ (Below.refl _ _) HB.out (by first | rfl | simp)
        case o4 =>
          intro g wr hB hk hp K hK
          have p19 : g 19 = .pointer (some ⟨g5, o5 + kk * 2, none⟩) := hp 3 (by kernel_rfl)
          have HB := hide hB
          clear hB hk hp
          have e19 := actOf_get 51 g ([] : List Deferred) 19 (by omega) p19
          refine wpOp_free rfl rfl ?_
          go_simp
          exact hK _ _ (Below.refl _ _) HB.out (by first | rfl | simp)
        case o5 =>
          intro g wr hB hk hp K hK
          have p20 : g 20 = .pointer (some ⟨g5, o5 + kk * 2, none⟩) := hp 4 (by kernel_rfl)
          have HB := hide hB
          clear hB hk hp
          have lc0 := cell_later HB.out fx1.out
          have e20 := actOf_get 51 g ([] : List Deferred) 20 (by omega) p20
          refine wpOp_free rfl rfl ?_
          go_simp
          exact hK _ _ (Below.refl _ _) HB.out (by first | rfl | simp)
        case o6 =>
          intro g wr hB hk hp K hK
          have p16 : g 16 = .slice b m cap2 := hp 0 (by kernel_rfl)
          have p21 : g 21 = .int .i64 x1 := hp 5 (by kernel_rfl)
          have HB := hide hB
          clear hB hk hp
          have e16 := actOf_get 51 g ([] : List Deferred) 16 (by omega) p16
          have e21 := actOf_get 51 g ([] : List Deferred) 21 (by omega) p21
          refine wpOp_free rfl rfl ?_
          go_simp
          go_at_call 44
          refine (RFind_calls _ _ _ _ _ _ (HRY.out.below HB.out)).mono ?_
          rintro e w' ⟨rfl, hb⟩
          exact hK _ _ hb (below_then HB.out HB.out.size hb) (congrArg (Value.int .i64) HF.out)
        case o7 =>
          intro g wr hB hk hp K hK
          have p22 : g 22 = .int .i64 f := hp 6 (by kernel_rfl)
          have HB := hide hB
          clear hB hk hp
          have e22 := actOf_get 51 g ([] : List Deferred) 22 (by omega) p22
          refine wpOp_free rfl rfl ?_
          go_simp
          exact hK _ _ (Below.refl _ _) HB.out (by first | rfl | exact congrArg Value.bool (decide_eq_false (by omega)))
        case o8 =>
          intro g wr hB hk hp K hK
          have p23 : g 23 = .bool false := hp 7 (by kernel_rfl)
          have HB := hide hB
          clear hB hk hp
          have e23 := actOf_get 51 g ([] : List Deferred) 23 (by omega) p23
          refine wpOp_free rfl rfl ?_
          go_simp
          exact hK _ _ (Below.refl _ _) HB.out (by first | rfl | simp)
        case o9 =>
          intro g wr hB hk hp K hK
          have pg : g 24 = .bool false := hp 8 (by kernel_rfl)
          exact wpOp_bar rfl rfl (by kernel_rfl) (by omega) pg (by decide) (hK undef wr (Below.refl _ _) hB rfl)
        case o10 =>
          intro g wr hB hk hp K hK
          have pg : g 24 = .bool false := hp 8 (by kernel_rfl)
          exact wpOp_bar rfl rfl (by kernel_rfl) (by omega) pg (by decide) (hK undef wr (Below.refl _ _) hB rfl)
        case o11 =>
          intro g wr hB hk hp K hK
          have pg : g 24 = .bool false := hp 8 (by kernel_rfl)
          exact wpOp_bar rfl rfl (by kernel_rfl) (by omega) pg (by decide) (hK undef wr (Below.refl _ _) hB rfl)
        case o12 =>
          intro g wr hB hk hp K hK
          have pg : g 27 = undef := hp 11 (by kernel_rfl)
          exact wpOp_barU rfl rfl (by kernel_rfl) (by omega) pg (hK undef wr (Below.refl _ _) hB rfl)
        case o13 =>
          intro g wr hB hk hp K hK
          have pg : g 27 = undef := hp 11 (by kernel_rfl)
          exact wpOp_barU rfl rfl (by kernel_rfl) (by omega) pg (hK undef wr (Below.refl _ _) hB rfl)
        case o14 =>
          intro g wr hB hk hp K hK
          have pg : g 27 = undef := hp 11 (by kernel_rfl)
          exact wpOp_barU rfl rfl (by kernel_rfl) (by omega) pg (hK undef wr (Below.refl _ _) hB rfl)
        case o15 =>
          intro g wr hB hk hp K hK
          have pg : g 27 = undef := hp 11 (by kernel_rfl)
          exact wpOp_barU rfl rfl (by kernel_rfl) (by omega) pg (hK undef wr (Below.refl _ _) hB rfl)
        case o16 =>
          intro g wr hB hk hp K hK
          have pg : g 27 = undef := hp 11 (by kernel_rfl)
          exact wpOp_barU rfl rfl (by kernel_rfl) (by omega) pg (hK undef wr (Below.refl _ _) hB rfl)
        case o17 =>
          intro g wr hB hk hp K hK
          have pg : g 27 = undef := hp 11 (by kernel_rfl)
          exact wpOp_barU rfl rfl (by kernel_rfl) (by omega) pg (hK undef wr (Below.refl _ _) hB rfl)
        case o18 =>
          intro g wr hB hk hp K hK
          have pg : g 27 = undef := hp 11 (by kernel_rfl)
          exact wpOp_barU rfl rfl (by kernel_rfl) (by omega) pg (hK undef wr (Below.refl _ _) hB rfl)
        case o19 =>
          intro g wr hB hk hp K hK
          have pg : g 27 = undef := hp 11 (by kernel_rfl)
          exact wpOp_barU rfl rfl (by kernel_rfl) (by omega) pg (hK undef wr (Below.refl _ _) hB rfl)
        case o20 =>
          intro g wr hB hk hp K hK
          have pg : g 27 = undef := hp 11 (by kernel_rfl)
          exact wpOp_barU rfl rfl (by kernel_rfl) (by omega) pg (hK undef wr (Below.refl _ _) hB rfl)
        case o21 =>
          intro g wr hB hk hp K hK
          have pg : g 27 = undef := hp 11 (by kernel_rfl)
          exact wpOp_barU rfl rfl (by kernel_rfl) (by omega) pg (hK undef wr (Below.refl _ _) hB rfl)
        case o22 =>
          intro g wr hB hk hp K hK
          have pg : g 27 = undef := hp 11 (by kernel_rfl)
          exact wpOp_barU rfl rfl (by kernel_rfl) (by omega) pg (hK undef wr (Below.refl _ _) hB rfl)
        case o23 =>
          intro g wr hB hk hp K hK
          have pg : g 27 = undef := hp 11 (by kernel_rfl)
          exact wpOp_barU rfl rfl (by kernel_rfl) (by omega) pg (hK undef wr (Below.refl _ _) hB rfl)
        case o24 =>
          intro g wr hB hk hp K hK
          have pg : g 24 = .bool false := hp 8 (by kernel_rfl)
          exact wpOp_bar rfl rfl (by kernel_rfl) (by omega) pg (by decide) (hK undef wr (Below.refl _ _) hB rfl)
        case o25 =>
          intro g wr hB hk hp K hK
          have p24 : g 24 = .bool false := hp 8 (by kernel_rfl)
          have p40 : g 40 = undef := hp 24 (by kernel_rfl)
          have HB := hide hB
          clear hB hk hp
          have e24 := actOf_get 51 g ([] : List Deferred) 24 (by omega) p24
          have e40 := actOf_get 51 g ([] : List Deferred) 40 (by omega) p40
          refine wpOp_free rfl rfl ?_
          go_simp
          exact hK _ _ (Below.refl _ _) HB.out (by first | rfl | simp)
        intro g wr hB hP
        have hp2 : g 41 = .bool false := hP 25 (by decide)
        have HB := hide hB
        clear hP hB
        simp only [putAll, Act.put, List.setIfInBounds_toArray, List.set_cons_zero, List.set_cons_succ, hp2]
        clear hp2
        go_wp2
        go_roundg (n - (kk + 1))
        case measure => omega
        case rel => exact ⟨kk + 1, _, r, by omega, by omega, by go_num, rfl, (hide (below_then BW.out BW.out.size HB.out)), (hide (OW.out.below HB.out)), (hide (GT.out.skip HX.out (.inl hsn.out))), by omega⟩
      · have hsn := hide (show seen ys x1 = false by
          cases h : seen ys x1 with
          | false => rfl
          | true => exact absurd (HFS.out.2 h) hf0)
        have hfl : f < 0 := by omega
        obtain ⟨z, hz⟩ : ∃ z : Bool, (z = true → ∀ (m : Nat) (y : Bk), kk = m + 1 → ss[m]? = some y → y.1 ≠ x1) ∧ (z = false → ∃ (j : Nat) (y : Bk), j < kk ∧ ss[j]? = some y ∧ y.1 = x1) ∧ (kk = 0 → z = true) ∧ (∀ (m : Nat) (y : Bk), kk = m + 1 → ss[m]? = some y → (y.1 != x1) = z) := by
          cases kk with
          | zero => exact ⟨true, fun _ m y h => (by omega), fun h => (by cases h), fun _ => rfl, fun m y h => (by omega)⟩
          | succ m =>
            have hml : m < ss.length := by have := (List.getElem?_eq_some_iff.1 HX.out).1; omega
            refine ⟨ss[m].1 != x1, fun h m2 y e hy => ?_, fun h => ⟨m, ss[m], by omega, List.getElem?_eq_getElem hml, by simpa using h⟩, fun h => (by omega), fun m2 y e hy => ?_⟩
            · have : m2 = m := by omega
              subst this
              rw [List.getElem?_eq_getElem hml] at hy
              cases hy
              simpa using h
            · have : m2 = m := by omega
              subst this
              rw [List.getElem?_eq_getElem hml] at hy
              cases hy
              rfl
        have HZ := hide hz
        clear hz
        have hstep : Hid (∀ W2 v2, Ow 1 i64c 3 w1.heap.size W2 v2 (r ++ [x1]) → z = true → GoneTill ss ys (kk + 1) (r ++ [x1])) := hide (fun _ _ _ hz => GT.out.put HS.out HX.out hsn.out (HZ.out.1 hz))
        by_cases hk0 : kk = 0
        · subst ha
          have hz1 := hide (HZ.out.2.2.1 hk0)
          subst hk0
          have fx0 := hide (show wq.cell? ⟨g5, o5, none⟩ = some (.int .i64 x1) by simpa using fx1.out)
          go_wp2
          refine wp_region_grow 51 [16, 17, 18, 19, 20, 21, 22, 23, 24, 25, 26, 27, 28, 29, 30, 31, 32, 33, 34, 35, 36, 37, 38, 39, 40, 41] (Below wq.heap.size wq) (PgB b m cap2 g5 o5 n cap5 x1 f) (by kernel_rfl) (by kernel_rfl) rfl (by kernel_rfl) (by kernel_rfl) (Below.refl _ _).drew (PgB_st b m cap2 g5 o5 n cap5 x1 f) ⟨⟨⟨⟨⟨⟨⟨⟨⟨⟨⟨⟨⟨⟨⟨⟨⟨⟨⟨⟨⟨⟨⟨⟨⟨⟨trivial, ?o0⟩, ?o1⟩, ?o2⟩, ?o3⟩, ?o4⟩, ?o5⟩, ?o6⟩, ?o7⟩, ?o8⟩, ?o9⟩, ?o10⟩, ?o11⟩, ?o12⟩, ?o13⟩, ?o14⟩, ?o15⟩, ?o16⟩, ?o17⟩, ?o18⟩, ?o19⟩, ?o20⟩, ?o21⟩, ?o22⟩, ?o23⟩, ?o24⟩, ?o25⟩ ?_
          case o0 =>
            intro g wr hB hk hp K hK
            have p1 : g 1 = .slice b m cap2 := Option.some.inj (hk 1 (by decide) (by kernel_rfl))
            have HB := hide hB
            clear hB hk hp
            have e1 := actOf_get 51 g ([] : List Deferred) 1 (by omega) p1
            refine wpOp_free rfl rfl ?_
            go_simp
            exact hK _ _ (Below.refl _ _) HB.out (by first | rfl | simp)
          case o1 =>
            intro g wr hB hk hp K hK
            have p5 : g 5 = .slice (some ⟨g5, o5, none⟩) n cap5 := Option.some.inj (hk 5 (by decide) (by kernel_rfl))
            have HB := hide hB
            clear hB hk hp
            have e5 := actOf_get 51 g ([] : List Deferred) 5 (by omega) p5
            refine wpOp_free rfl rfl ?_
            go_simp
            exact hK _ _ (Below.refl _ _) HB.out (by first | rfl | simp)
          case o2 =>
            intro g wr hB hk hp K hK
            have p7 : g 7 = .int .i64 (((0 : Nat) : Int) : Int) := Option.some.inj (hk 7 (by decide) (by kernel_rfl))
            have HB := hide hB
            clear hB hk hp
            have e7 := actOf_get 51 g ([] : List Deferred) 7 (by omega) p7
            refine wpOp_free rfl rfl ?_
            go_simp
            exact hK _ _ (Below.refl _ _) HB.out (by first | rfl | simp)
          case o3 =>
            intro g wr hB hk hp K hK
            have p17 : g 17 = .slice (some ⟨g5, o5, none⟩) n cap5 := hp 1 (by kernel_rfl)
            have p18 : g 18 = .int .i64 (((0 : Nat) : Int) : Int) := hp 2 (by kernel_rfl)
            have HB := hide hB
            clear hB hk hp
            have e17 := actOf_get 51 g ([] : List Deferred) 17 (by omega) p17
            have e18 := actOf_get 51 g ([] : List Deferred) 18 (by omega) p18
            refine wpOp_free rfl rfl ?_
            go_simp
            exact hK _ _ (Below.refl _ _) HB.out (by first | rfl | simp)
          case o4 =>
            intro g wr hB hk hp K hK
            have p19 : g 19 = .pointer (some ⟨g5, o5, none⟩) := hp 3 (by kernel_rfl)
            have HB := hide hB
            clear hB hk hp
            have e19 := actOf_get 51 g ([] : List Deferred) 19 (by omega) p19
            refine wpOp_free rfl rfl ?_
            go_simp
            exact hK _ _ (Below.refl _ _) HB.out (by first | rfl | simp)
          case o5 =>
            intro g wr hB hk hp K hK
            have p20 : g 20 = .pointer (some ⟨g5, o5, none⟩) := hp 4 (by kernel_rfl)
            have HB := hide hB
            clear hB hk hp
            have lc0 := cell_later HB.out fx0.out
            have e20 := actOf_get 51 g ([] : List Deferred) 20 (by omega) p20
            refine wpOp_free rfl rfl ?_
            go_simp
            exact hK _ _ (Below.refl _ _) HB.out (by first | rfl | simp)
          case o6 =>
            intro g wr hB hk hp K hK
            have p16 : g 16 = .slice b m cap2 := hp 0 (by kernel_rfl)
            have p21 : g 21 = .int .i64 x1 := hp 5 (by kernel_rfl)
            have HB := hide hB
            clear hB hk hp
            have e16 := actOf_get 51 g ([] : List Deferred) 16 (by omega) p16
            have e21 := actOf_get 51 g ([] : List Deferred) 21 (by omega) p21
            refine wpOp_free rfl rfl ?_
            go_simp
            go_at_call 44
            refine (RFind_calls _ _ _ _ _ _ (HRY.out.below HB.out)).mono ?_
            rintro e w' ⟨rfl, hb⟩
            exact hK _ _ hb (below_then HB.out HB.out.size hb) (congrArg (Value.int .i64) HF.out)
          case o7 =>
            intro g wr hB hk hp K hK
            have p22 : g 22 = .int .i64 f := hp 6 (by kernel_rfl)
            have HB := hide hB
            clear hB hk hp
            have e22 := actOf_get 51 g ([] : List Deferred) 22 (by omega) p22
            refine wpOp_free rfl rfl ?_
            go_simp
            exact hK _ _ (Below.refl _ _) HB.out (by first | rfl | exact congrArg Value.bool (decide_eq_true (by omega)))
          case o8 =>
            intro g wr hB hk hp K hK
            have p23 : g 23 = .bool true := hp 7 (by kernel_rfl)
            have HB := hide hB
            clear hB hk hp
            have e23 := actOf_get 51 g ([] : List Deferred) 23 (by omega) p23
            refine wpOp_free rfl rfl ?_
            go_simp
            exact hK _ _ (Below.refl _ _) HB.out (by first | rfl | simp)
          case o9 =>
            intro g wr hB hk hp K hK
            have p7 : g 7 = .int .i64 (((0 : Nat) : Int) : Int) := Option.some.inj (hk 7 (by decide) (by kernel_rfl))
            have pg : g 24 = .bool true := hp 8 (by kernel_rfl)
            have HB := hide hB
            clear hB hk hp
            have e7 := actOf_get 51 g ([] : List Deferred) 7 (by omega) p7
            refine wpOp_let rfl rfl (by kernel_rfl) (by omega) pg ?_
            clear pg
            go_simp
            exact hK _ _ (Below.refl _ _) HB.out (by first | rfl | simp)
          case o10 =>
            intro g wr hB hk hp K hK
            have p25 : g 25 = .int .i64 (((0 : Nat) : Int) : Int) := hp 9 (by kernel_rfl)
            have pg : g 24 = .bool true := hp 8 (by kernel_rfl)
            have HB := hide hB
            clear hB hk hp
            have e25 := actOf_get 51 g ([] : List Deferred) 25 (by omega) p25
            refine wpOp_let rfl rfl (by kernel_rfl) (by omega) pg ?_
            clear pg
            go_simp
            exact hK _ _ (Below.refl _ _) HB.out (by first | rfl | simp)
          case o11 =>
            intro g wr hB hk hp K hK
            have p26 : g 26 = .bool true := hp 10 (by kernel_rfl)
            have pg : g 24 = .bool true := hp 8 (by kernel_rfl)
            have HB := hide hB
            clear hB hk hp
            have e26 := actOf_get 51 g ([] : List Deferred) 26 (by omega) p26
            refine wpOp_let rfl rfl (by kernel_rfl) (by omega) pg ?_
            clear pg
            go_simp
            exact hK _ _ (Below.refl _ _) HB.out (by first | rfl | simp)
          case o12 =>
            intro g wr hB hk hp K hK
            have pg : g 27 = .bool true := hp 11 (by kernel_rfl)
            exact wpOp_bar rfl rfl (by kernel_rfl) (by omega) pg (by decide) (hK undef wr (Below.refl _ _) hB rfl)
          case o13 =>
            intro g wr hB hk hp K hK
            have pg : g 27 = .bool true := hp 11 (by kernel_rfl)
            exact wpOp_bar rfl rfl (by kernel_rfl) (by omega) pg (by decide) (hK undef wr (Below.refl _ _) hB rfl)
          case o14 =>
            intro g wr hB hk hp K hK
            have pg : g 27 = .bool true := hp 11 (by kernel_rfl)
            exact wpOp_bar rfl rfl (by kernel_rfl) (by omega) pg (by decide) (hK undef wr (Below.refl _ _) hB rfl)
          case o15 =>
            intro g wr hB hk hp K hK
            have pg : g 27 = .bool true := hp 11 (by kernel_rfl)
            exact wpOp_bar rfl rfl (by kernel_rfl) (by omega) pg (by decide) (hK undef wr (Below.refl _ _) hB rfl)
          case o16 =>
            intro g wr hB hk hp K hK
            have pg : g 27 = .bool true := hp 11 (by kernel_rfl)
            exact wpOp_bar rfl rfl (by kernel_rfl) (by omega) pg (by decide) (hK undef wr (Below.refl _ _) hB rfl)
          case o17 =>
            intro g wr hB hk hp K hK
            have pg : g 27 = .bool true := hp 11 (by kernel_rfl)
            exact wpOp_bar rfl rfl (by kernel_rfl) (by omega) pg (by decide) (hK undef wr (Below.refl _ _) hB rfl)
          case o18 =>
            intro g wr hB hk hp K hK
            have pg : g 27 = .bool true := hp 11 (by kernel_rfl)
            exact wpOp_bar rfl rfl (by kernel_rfl) (by omega) pg (by decide) (hK undef wr (Below.refl _ _) hB rfl)
          case o19 =>
            intro g wr hB hk hp K hK
            have pg : g 27 = .bool true := hp 11 (by kernel_rfl)
            exact wpOp_bar rfl rfl (by kernel_rfl) (by omega) pg (by decide) (hK undef wr (Below.refl _ _) hB rfl)
          case o20 =>
            intro g wr hB hk hp K hK
            have pg : g 27 = .bool true := hp 11 (by kernel_rfl)
            exact wpOp_bar rfl rfl (by kernel_rfl) (by omega) pg (by decide) (hK undef wr (Below.refl _ _) hB rfl)
          case o21 =>
            intro g wr hB hk hp K hK
            have pg : g 27 = .bool true := hp 11 (by kernel_rfl)
            exact wpOp_bar rfl rfl (by kernel_rfl) (by omega) pg (by decide) (hK undef wr (Below.refl _ _) hB rfl)
          case o22 =>
            intro g wr hB hk hp K hK
            have pg : g 27 = .bool true := hp 11 (by kernel_rfl)
            exact wpOp_bar rfl rfl (by kernel_rfl) (by omega) pg (by decide) (hK undef wr (Below.refl _ _) hB rfl)
          case o23 =>
            intro g wr hB hk hp K hK
            have pg : g 27 = .bool true := hp 11 (by kernel_rfl)
            exact wpOp_bar rfl rfl (by kernel_rfl) (by omega) pg (by decide) (hK undef wr (Below.refl _ _) hB rfl)
          case o24 =>
            intro g wr hB hk hp K hK
            have p27 : g 27 = .bool true := hp 11 (by kernel_rfl)
            have p39 : g 39 = undef := hp 23 (by kernel_rfl)
            have pg : g 24 = .bool true := hp 8 (by kernel_rfl)
            have HB := hide hB
            clear hB hk hp
            have e27 := actOf_get 51 g ([] : List Deferred) 27 (by omega) p27
            have e39 := actOf_get 51 g ([] : List Deferred) 39 (by omega) p39
            refine wpOp_let rfl rfl (by kernel_rfl) (by omega) pg ?_
            clear pg
            go_simp
            exact hK _ _ (Below.refl _ _) HB.out (by first | rfl | simp)
          case o25 =>
            intro g wr hB hk hp K hK
            have p24 : g 24 = .bool true := hp 8 (by kernel_rfl)
            have p40 : g 40 = .bool true := hp 24 (by kernel_rfl)
            have HB := hide hB
            clear hB hk hp
            have e24 := actOf_get 51 g ([] : List Deferred) 24 (by omega) p24
            have e40 := actOf_get 51 g ([] : List Deferred) 40 (by omega) p40
            refine wpOp_free rfl rfl ?_
            go_simp
            exact hK _ _ (Below.refl _ _) HB.out (by first | rfl | simp)
          intro g wr hB hP
          have hp2 : g 41 = .bool true := hP 25 (by decide)
          have HB := hide hB
          clear hP hB
          simp only [putAll, Act.put, List.setIfInBounds_toArray, List.set_cons_zero, List.set_cons_succ, hp2]
          clear hp2
          have hc1 := cell_later HB.out fx1.out
          have hc2 := cell_later HB.out fx2.out
          simp only [Nat.zero_mul, Nat.add_zero] at hc1 hc2
          have OW2 := hide (OW.out.below HB.out)
          have SZ2 := hide (Nat.le_trans BW.out.size HB.out.size)
          go_wp2_with (at_builtin; refine wpList_app1 El_int i64c i64c_len i64c_one rfl _ _ rfl w1.heap.size v r x1 _ rfl rfl OW2.out rfl SZ2.out hll.out (by omega) ?_; intro v' w' h1 h2 h3; have H1 := hide h1; have H3 := hide h3; clear h1 h2 h3)
          go_roundg (n - (0 + 1))
          case measure => omega
          case rel => exact ⟨0 + 1, _, _, by omega, by omega, by go_num, rfl, (hide ((below_then BW.out BW.out.size HB.out).trans H3.out)), H1, (hide (hstep.out _ _ H1.out hz1.out)), by rw [List.length_append, List.length_singleton]; omega⟩
        · obtain ⟨m1, hm1⟩ : ∃ m1, kk = m1 + 1 := ⟨kk - 1, by omega⟩
          obtain ⟨g6, o6, y1, y2, ha6, hy, hb6, hd1, hd2⟩ := (HV.out.below BW.out).at_bk m1 (by omega)
          rw [ha] at ha6
          cases ha6
          subst ha
          have hzz := hide (HZ.out.2.2.2 m1 (y1, y2) hm1 hy)
          have fy1 := hide hd1
          have fy2 := hide hd2
          have hk00 : ((kk : Int) == 0) = false := by rw [beq_eq_false_iff_ne]; omega
          have hsub := hide (show IntKind.i64.wrap ((kk : Int) - 1) = (m1 : Int) by rw [IntWalk.i64_in _ (by omega)]; omega)
          have hm1n : (m1 : Int) < (n : Int) := by omega
          clear hm1 hy hd1 hd2 hk0
          go_wp2
          refine wp_region_grow 51 [16, 17, 18, 19, 20, 21, 22, 23, 24, 25, 26, 27, 28, 29, 30, 31, 32, 33, 34, 35, 36, 37, 38, 39, 40, 41] (Below wq.heap.size wq) (PgC b m cap2 g5 o5 n cap5 kk x1 f m1 y1 z) (by kernel_rfl) (by kernel_rfl) rfl (by kernel_rfl) (by kernel_rfl) (Below.refl _ _).drew (PgC_st b m cap2 g5 o5 n cap5 kk x1 f m1 y1 z) ⟨⟨⟨⟨⟨⟨⟨⟨⟨⟨⟨⟨⟨⟨⟨⟨⟨⟨⟨⟨⟨⟨⟨⟨⟨⟨trivial, ?o0⟩, ?o1⟩, ?o2⟩, ?o3⟩, ?o4⟩, ?o5⟩, ?o6⟩, ?o7⟩, ?o8⟩, ?o9⟩, ?o10⟩, ?o11⟩, ?o12⟩, ?o13⟩, ?o14⟩, ?o15⟩, ?o16⟩, ?o17⟩, ?o18⟩, ?o19⟩, ?o20⟩, ?o21⟩, ?o22⟩, ?o23⟩, ?o24⟩, ?o25⟩ ?_
          case o0 =>
            intro g wr hB hk hp K hK
            have p1 : g 1 = .slice b m cap2 := Option.some.inj (hk 1 (by decide) (by kernel_rfl))
            have HB := hide hB
            clear hB hk hp
            have e1 := actOf_get 51 g ([] : List Deferred) 1 (by omega) p1
            refine wpOp_free rfl rfl ?_
            go_simp
            exact hK _ _ (Below.refl _ _) HB.out (by first | rfl | simp)
          case o1 =>
            intro g wr hB hk hp K hK
            have p5 : g 5 = .slice (some ⟨g5, o5, none⟩) n cap5 := Option.some.inj (hk 5 (by decide) (by kernel_rfl))
            have HB := hide hB
            clear hB hk hp
            have e5 := actOf_get 51 g ([] : List Deferred) 5 (by omega) p5
            refine wpOp_free rfl rfl ?_
            go_simp
            exact hK _ _ (Below.refl _ _) HB.out (by first | rfl | simp)
          case o2 =>
            intro g wr hB hk hp K hK
            have p7 : g 7 = .int .i64 (kk : Int) := Option.some.inj (hk 7 (by decide) (by kernel_rfl))
            have HB := hide hB
            clear hB hk hp
            have e7 := actOf_get 51 g ([] : List Deferred) 7 (by omega) p7
            refine wpOp_free rfl rfl ?_
            go_simp
            exact hK _ _ (Below.refl _ _) HB.out (by first | rfl | simp)
          case o3 =>
            intro g wr hB hk hp K hK
            have p17 : g 17 = .slice (some ⟨g5, o5, none⟩) n cap5 := hp 1 (by kernel_rfl)
            have p18 : g 18 = .int .i64 (kk : Int) := hp 2 (by kernel_rfl)
            have HB := hide hB
            clear hB hk hp
            have e17 := actOf_get 51 g ([] : List Deferred) 17 (by omega) p17
            have e18 := actOf_get 51 g ([] : List Deferred) 18 (by omega) p18
            refine wpOp_free rfl rfl ?_
            go_simp
            exact hK _ _ (Below.refl _ _) HB.out (by first | rfl | simp)
          case o4 =>
            intro g wr hB hk hp K hK
            have p19 : g 19 = .pointer (some ⟨g5, o5 + kk * 2, none⟩) := hp 3 (by kernel_rfl)
            have HB := hide hB
            clear hB hk hp
            have e19 := actOf_get 51 g ([] : List Deferred) 19 (by omega) p19
            refine wpOp_free rfl rfl ?_
            go_simp
            exact hK _ _ (Below.refl _ _) HB.out (by first | rfl | simp)
          case o5 =>
            intro g wr hB hk hp K hK
            have p20 : g 20 = .pointer (some ⟨g5, o5 + kk * 2, none⟩) := hp 4 (by kernel_rfl)
            have HB := hide hB
            clear hB hk hp
            have lc0 := cell_later HB.out fx1.out
            have e20 := actOf_get 51 g ([] : List Deferred) 20 (by omega) p20
            refine wpOp_free rfl rfl ?_
            go_simp
            exact hK _ _ (Below.refl _ _) HB.out (by first | rfl | simp)
          case o6 =>
            intro g wr hB hk hp K hK
            have p16 : g 16 = .slice b m cap2 := hp 0 (by kernel_rfl)
            have p21 : g 21 = .int .i64 x1 := hp 5 (by kernel_rfl)
            have HB := hide hB
            clear hB hk hp
            have e16 := actOf_get 51 g ([] : List Deferred) 16 (by omega) p16
            have e21 := actOf_get 51 g ([] : List Deferred) 21 (by omega) p21
            refine wpOp_free rfl rfl ?_
            go_simp
            go_at_call 44
            refine (RFind_calls _ _ _ _ _ _ (HRY.out.below HB.out)).mono ?_
            rintro e w' ⟨rfl, hb⟩
            exact hK _ _ hb (below_then HB.out HB.out.size hb) (congrArg (Value.int .i64) HF.out)
          case o7 =>
            intro g wr hB hk hp K hK
            have p22 : g 22 = .int .i64 f := hp 6 (by kernel_rfl)
            have HB := hide hB
            clear hB hk hp
            have e22 := actOf_get 51 g ([] : List Deferred) 22 (by omega) p22
            refine wpOp_free rfl rfl ?_
            go_simp
            exact hK _ _ (Below.refl _ _) HB.out (by first | rfl | exact congrArg Value.bool (decide_eq_true (by omega)))
          case o8 =>
            intro g wr hB hk hp K hK
            have p23 : g 23 = .bool true := hp 7 (by kernel_rfl)
            have HB := hide hB
            clear hB hk hp
            have e23 := actOf_get 51 g ([] : List Deferred) 23 (by omega) p23
            refine wpOp_free rfl rfl ?_
            go_simp
            exact hK _ _ (Below.refl _ _) HB.out (by first | rfl | simp)
          case o9 =>
            intro g wr hB hk hp K hK
            have p7 : g 7 = .int .i64 (kk : Int) := Option.some.inj (hk 7 (by decide) (by kernel_rfl))
            have pg : g 24 = .bool true := hp 8 (by kernel_rfl)
            have HB := hide hB
            clear hB hk hp
            have e7 := actOf_get 51 g ([] : List Deferred) 7 (by omega) p7
            refine wpOp_let rfl rfl (by kernel_rfl) (by omega) pg ?_
            clear pg
            go_simp
            exact hK _ _ (Below.refl _ _) HB.out (by first | rfl | simp)
          case o10 =>
            intro g wr hB hk hp K hK
            have p25 : g 25 = .int .i64 (kk : Int) := hp 9 (by kernel_rfl)
            have pg : g 24 = .bool true := hp 8 (by kernel_rfl)
            have HB := hide hB
            clear hB hk hp
            have e25 := actOf_get 51 g ([] : List Deferred) 25 (by omega) p25
            refine wpOp_let rfl rfl (by kernel_rfl) (by omega) pg ?_
            clear pg
            go_simp
            exact hK _ _ (Below.refl _ _) HB.out (by first | rfl | simp)
          case o11 =>
            intro g wr hB hk hp K hK
            have p26 : g 26 = .bool false := hp 10 (by kernel_rfl)
            have pg : g 24 = .bool true := hp 8 (by kernel_rfl)
            have HB := hide hB
            clear hB hk hp
            have e26 := actOf_get 51 g ([] : List Deferred) 26 (by omega) p26
            refine wpOp_let rfl rfl (by kernel_rfl) (by omega) pg ?_
            clear pg
            go_simp
            exact hK _ _ (Below.refl _ _) HB.out (by first | rfl | simp)
          case o12 =>
            intro g wr hB hk hp K hK
            have p5 : g 5 = .slice (some ⟨g5, o5, none⟩) n cap5 := Option.some.inj (hk 5 (by decide) (by kernel_rfl))
            have pg : g 27 = .bool false := hp 11 (by kernel_rfl)
            have HB := hide hB
            clear hB hk hp
            have e5 := actOf_get 51 g ([] : List Deferred) 5 (by omega) p5
            refine wpOp_let rfl rfl (by kernel_rfl) (by omega) pg ?_
            clear pg
            go_simp
            exact hK _ _ (Below.refl _ _) HB.out (by first | rfl | simp)
          case o13 =>
            intro g wr hB hk hp K hK
            have p7 : g 7 = .int .i64 (kk : Int) := Option.some.inj (hk 7 (by decide) (by kernel_rfl))
            have pg : g 27 = .bool false := hp 11 (by kernel_rfl)
            have HB := hide hB
            clear hB hk hp
            have e7 := actOf_get 51 g ([] : List Deferred) 7 (by omega) p7
            refine wpOp_let rfl rfl (by kernel_rfl) (by omega) pg ?_
            clear pg
            go_simp
            exact hK _ _ (Below.refl _ _) HB.out (by first | rfl | simp)
          case o14 =>
            intro g wr hB hk hp K hK
            have p29 : g 29 = .int .i64 (kk : Int) := hp 13 (by kernel_rfl)
            have pg : g 27 = .bool false := hp 11 (by kernel_rfl)
            have HB := hide hB
            clear hB hk hp
            have e29 := actOf_get 51 g ([] : List Deferred) 29 (by omega) p29
            refine wpOp_let rfl rfl (by kernel_rfl) (by omega) pg ?_
            clear pg
            go_simp
            exact hK _ _ (Below.refl _ _) HB.out (congrArg (Value.int .i64) hsub.out)
          case o15 =>
            intro g wr hB hk hp K hK
            have p28 : g 28 = .slice (some ⟨g5, o5, none⟩) n cap5 := hp 12 (by kernel_rfl)
            have p30 : g 30 = .int .i64 (m1 : Int) := hp 14 (by kernel_rfl)
            have pg : g 27 = .bool false := hp 11 (by kernel_rfl)
            have HB := hide hB
            clear hB hk hp
            have e28 := actOf_get 51 g ([] : List Deferred) 28 (by omega) p28
            have e30 := actOf_get 51 g ([] : List Deferred) 30 (by omega) p30
            refine wpOp_let rfl rfl (by kernel_rfl) (by omega) pg ?_
            clear pg
            go_simp
            exact hK _ _ (Below.refl _ _) HB.out (by first | rfl | simp)
          case o16 =>
            intro g wr hB hk hp K hK
            have p31 : g 31 = .pointer (some ⟨g5, o5 + m1 * 2, none⟩) := hp 15 (by kernel_rfl)
            have pg : g 27 = .bool false := hp 11 (by kernel_rfl)
            have HB := hide hB
            clear hB hk hp
            have e31 := actOf_get 51 g ([] : List Deferred) 31 (by omega) p31
            refine wpOp_let rfl rfl (by kernel_rfl) (by omega) pg ?_
            clear pg
            go_simp
            exact hK _ _ (Below.refl _ _) HB.out (by first | rfl | simp)
          case o17 =>
            intro g wr hB hk hp K hK
            have p32 : g 32 = .pointer (some ⟨g5, o5 + m1 * 2, none⟩) := hp 16 (by kernel_rfl)
            have pg : g 27 = .bool false := hp 11 (by kernel_rfl)
            have HB := hide hB
            clear hB hk hp
            have lc0 := cell_later HB.out fy1.out
            have e32 := actOf_get 51 g ([] : List Deferred) 32 (by omega) p32
            refine wpOp_let rfl rfl (by kernel_rfl) (by omega) pg ?_
            clear pg
            go_simp
            exact hK _ _ (Below.refl _ _) HB.out (by first | rfl | simp)
          case o18 =>
            intro g wr hB hk hp K hK
            have p5 : g 5 = .slice (some ⟨g5, o5, none⟩) n cap5 := Option.some.inj (hk 5 (by decide) (by kernel_rfl))
            have pg : g 27 = .bool false := hp 11 (by kernel_rfl)
            have HB := hide hB
            clear hB hk hp
            have e5 := actOf_get 51 g ([] : List Deferred) 5 (by omega) p5
            refine wpOp_let rfl rfl (by kernel_rfl) (by omega) pg ?_
            clear pg
            go_simp
            exact hK _ _ (Below.refl _ _) HB.out (by first | rfl | simp)
          case o19 =>
            intro g wr hB hk hp K hK
            have p7 : g 7 = .int .i64 (kk : Int) := Option.some.inj (hk 7 (by decide) (by kernel_rfl))
            have pg : g 27 = .bool false := hp 11 (by kernel_rfl)
            have HB := hide hB
            clear hB hk hp
            have e7 := actOf_get 51 g ([] : List Deferred) 7 (by omega) p7
            refine wpOp_let rfl rfl (by kernel_rfl) (by omega) pg ?_
            clear pg
            go_simp
            exact hK _ _ (Below.refl _ _) HB.out (by first | rfl | simp)
          case o20 =>
            intro g wr hB hk hp K hK
            have p34 : g 34 = .slice (some ⟨g5, o5, none⟩) n cap5 := hp 18 (by kernel_rfl)
            have p35 : g 35 = .int .i64 (kk : Int) := hp 19 (by kernel_rfl)
            have pg : g 27 = .bool false := hp 11 (by kernel_rfl)
            have HB := hide hB
            clear hB hk hp
            have e34 := actOf_get 51 g ([] : List Deferred) 34 (by omega) p34
            have e35 := actOf_get 51 g ([] : List Deferred) 35 (by omega) p35
            refine wpOp_let rfl rfl (by kernel_rfl) (by omega) pg ?_
            clear pg
            go_simp
            exact hK _ _ (Below.refl _ _) HB.out (by first | rfl | simp)
          case o21 =>
            intro g wr hB hk hp K hK
            have p36 : g 36 = .pointer (some ⟨g5, o5 + kk * 2, none⟩) := hp 20 (by kernel_rfl)
            have pg : g 27 = .bool false := hp 11 (by kernel_rfl)
            have HB := hide hB
            clear hB hk hp
            have e36 := actOf_get 51 g ([] : List Deferred) 36 (by omega) p36
            refine wpOp_let rfl rfl (by kernel_rfl) (by omega) pg ?_
            clear pg
            go_simp
            exact hK _ _ (Below.refl _ _) HB.out (by first | rfl | simp)
          case o22 =>
            intro g wr hB hk hp K hK
            have p37 : g 37 = .pointer (some ⟨g5, o5 + kk * 2, none⟩) := hp 21 (by kernel_rfl)
            have pg : g 27 = .bool false := hp 11 (by kernel_rfl)
            have HB := hide hB
            clear hB hk hp
            have lc0 := cell_later HB.out fx1.out
            have e37 := actOf_get 51 g ([] : List Deferred) 37 (by omega) p37
            refine wpOp_let rfl rfl (by kernel_rfl) (by omega) pg ?_
            clear pg
            go_simp
            exact hK _ _ (Below.refl _ _) HB.out (by first | rfl | simp)
          case o23 =>
            intro g wr hB hk hp K hK
            have p33 : g 33 = .int .i64 y1 := hp 17 (by kernel_rfl)
            have p38 : g 38 = .int .i64 x1 := hp 22 (by kernel_rfl)
            have pg : g 27 = .bool false := hp 11 (by kernel_rfl)
            have HB := hide hB
            clear hB hk hp
            have e33 := actOf_get 51 g ([] : List Deferred) 33 (by omega) p33
            have e38 := actOf_get 51 g ([] : List Deferred) 38 (by omega) p38
            refine wpOp_let rfl rfl (by kernel_rfl) (by omega) pg ?_
            clear pg
            go_simp
            exact hK _ _ (Below.refl _ _) HB.out (congrArg Value.bool hzz.out)
          case o24 =>
            intro g wr hB hk hp K hK
            have p27 : g 27 = .bool false := hp 11 (by kernel_rfl)
            have p39 : g 39 = .bool z := hp 23 (by kernel_rfl)
            have pg : g 24 = .bool true := hp 8 (by kernel_rfl)
            have HB := hide hB
            clear hB hk hp
            have e27 := actOf_get 51 g ([] : List Deferred) 27 (by omega) p27
            have e39 := actOf_get 51 g ([] : List Deferred) 39 (by omega) p39
            refine wpOp_let rfl rfl (by kernel_rfl) (by omega) pg ?_
            clear pg
            go_simp
            exact hK _ _ (Below.refl _ _) HB.out (by first | rfl | simp)
          case o25 =>
            intro g wr hB hk hp K hK
            have p24 : g 24 = .bool true := hp 8 (by kernel_rfl)
            have p40 : g 40 = .bool z := hp 24 (by kernel_rfl)
            have HB := hide hB
            clear hB hk hp
            have e24 := actOf_get 51 g ([] : List Deferred) 24 (by omega) p24
            have e40 := actOf_get 51 g ([] : List Deferred) 40 (by omega) p40
            refine wpOp_free rfl rfl ?_
            go_simp
            exact hK _ _ (Below.refl _ _) HB.out (by first | rfl | simp)
          intro g wr hB hP
          have hp2 : g 41 = .bool z := hP 25 (by decide)
          have HB := hide hB
          clear hP hB
          simp only [putAll, Act.put, List.setIfInBounds_toArray, List.set_cons_zero, List.set_cons_succ, hp2]
          clear hp2
          have hc1 := cell_later HB.out fx1.out
          have hc2 := cell_later HB.out fx2.out
          have OW2 := hide (OW.out.below HB.out)
          have SZ2 := hide (Nat.le_trans BW.out.size HB.out.size)
          cases z with
          | true =>
            go_wp2_with (at_builtin; refine wpList_app1 El_int i64c i64c_len i64c_one rfl _ _ rfl w1.heap.size v r x1 _ rfl rfl OW2.out rfl SZ2.out hll.out (by omega) ?_; intro v' w' h1 h2 h3; have H1 := hide h1; have H3 := hide h3; clear h1 h2 h3)
            go_roundg (n - (kk + 1))
            case measure => omega
            case rel => exact ⟨kk + 1, _, _, by omega, by omega, by go_num, rfl, (hide ((below_then BW.out BW.out.size HB.out).trans H3.out)), H1, (hide (hstep.out _ _ H1.out (by first | rfl | trivial))), by rw [List.length_append, List.length_singleton]; omega⟩
          | false =>
            go_wp2
            go_roundg (n - (kk + 1))
            case measure => omega
            case rel => exact ⟨kk + 1, _, r, by omega, by omega, by go_num, rfl, (hide (below_then BW.out BW.out.size HB.out)), OW2, (hide (GT.out.skip HX.out (.inr (HZ.out.2.1 (by first | rfl | trivial))))), by omega⟩
    · have hltz : ¬ (kk : Int) < (n : Int) := by omega
      have : kk = n := by omega
      subst this
      have hfin : GoneIs xs ys r := by
        have h := GT.out
        have hl : kk = ss.length := by rw [← HQ.out.len, HR.out.len]
        rw [hl] at h
        exact h.all HQ.out.1
      have HFIN := hide hfin
      clear hfin
      go_wp2
      go_ret
      exact ⟨_, rfl, r, OW.out.mono HC.out.size, HFIN.out, below_then HC.out HC.out.size BW.out⟩
end Go.Proofs.Ytiaifphidcfddaa
