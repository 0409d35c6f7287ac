/-
  The stable sort of backends: symMerge's contract.
-/
import Derived.Test.YtiaifphidcfddaaSymA
import Derived.Test.YtiaifphidcfddaaSymB
import Derived.Deep.DeepCutAuto
set_option linter.unusedVariables false
set_option linter.unusedSimpArgs false
namespace Go.Proofs.Ytiaifphidcfddaa
open Go.RowKit Go.Shelf

def TC35 (b n cap pp c l : Nat) (x1 x2 y1 y2 : Int) (z : Bool) : Nat → Value → World → Prop
  | 0, v, w => v = .func (.func 66) #[] #[]
  | 1, v, w => v = .slice (some ⟨b, 0, none⟩) n cap
  | 2, v, w => v = .int .i64 (pp : Int)
  | 3, v, w => v = .int .i64 (c : Int)
  | 4, v, w => v = .int .i64 (l : Int)
  | 5, v, w => v = .pointer (some ⟨b, l * 2, none⟩)
  | 6, v, w => v = .agg #[.int .i64 y1, .int .i64 y2]
  | 7, v, w => v = .slice (some ⟨b, 0, none⟩) n cap
  | 8, v, w => v = .int .i64 (c : Int)
  | 9, v, w => v = .pointer (some ⟨b, c * 2, none⟩)
  | 10, v, w => v = .agg #[.int .i64 x1, .int .i64 x2]
  | 11, v, w => v = .int .i64 (cmpI y1 x1)
  | 12, v, w => v = .bool (decide (cmpI y1 x1 < 0))
  | 13, v, w => v = .bool z
  | _, _, _ => True
theorem TC35_st (b n cap pp c l : Nat) (x1 x2 y1 y2 : Int) (z : Bool) (i : Nat) (v : Value) (w w' : World) (hP0 : TC35 b n cap pp c l x1 x2 y1 y2 z i v w) (hb : Below w.heap.size w w') : TC35 b n cap pp c l x1 x2 y1 y2 z i v w' := by
  match i with
  | 0 => exact hP0
  | 1 => exact hP0
  | 2 => exact hP0
  | 3 => exact hP0
  | 4 => exact hP0
  | 5 => exact hP0
  | 6 => exact hP0
  | 7 => exact hP0
  | 8 => exact hP0
  | 9 => exact hP0
  | 10 => exact hP0
  | 11 => exact hP0
  | 12 => exact hP0
  | 13 => exact hP0
  | _ + 14 => trivial

/-- What a merge is to do, for rows of N backends together at most. -/
def SymSaid (N : Nat) : Prop := ∀ (b n cap base a m e : Nat) (p s1 s2 q : List Bk) (w : World), Ow 2 bkc 56 base w (.slice (some ⟨b, 0, none⟩) n cap) (p ++ (s1 ++ (s2 ++ q))) → a = p.length → m = a + s1.length → e = m + s2.length → Srt s1 → Srt s2 → 0 < s1.length → 0 < s2.length → n ≤ 1048576 → s1.length + s2.length ≤ N →
    Calls Try.prog 123 #[.slice (some ⟨b, 0, none⟩) n cap, .int .i64 (a : Int), .int .i64 (m : Int), .int .i64 (e : Int), .func (.func 66) #[] #[]] w fun e' w' => e' = .returned (.tuple #[]) ∧
      ∃ s', Ow 2 bkc 56 base w' (.slice (some ⟨b, 0, none⟩) n cap) (p ++ (s' ++ q)) ∧ Srt s' ∧ StEq (s1 ++ s2) s' ∧ w.grownBy w' (some b)

theorem srt_le {l : List Bk} (h : Srt l) {i j : Nat} {x y : Bk} (hi : l[i]? = some x) (hj : l[j]? = some y) (hij : i ≤ j) : x.1 ≤ y.1 := by
  obtain ⟨g1, e1⟩ := List.getElem?_eq_some_iff.1 hi
  obtain ⟨g2, e2⟩ := List.getElem?_eq_some_iff.1 hj
  by_cases e : i = j
  · subst e; rw [e1] at e2; rw [e2]; exact Int.le_refl _
  · unfold Srt at h
    rw [List.pairwise_iff_getElem] at h
    have := h i j g1 g2 (by omega)
    rw [e1, e2] at this; exact this

/-- Behind the search: what stands left of the cuts is not greater than what stands right of them; what changes places has no number in common. -/
theorem cut_facts {A1 A2 B1 B2 : List Bk} (h1 : Srt (A1 ++ A2)) (h2 : Srt (B1 ++ B2))
    (f1 : ∀ x y, (A1 ++ A2)[A1.length - 1]? = some x → B2[0]? = some y → A1 ≠ [] → x.1 ≤ y.1)
    (f2 : ∀ x y, A2[0]? = some x → (B1 ++ B2)[B1.length - 1]? = some y → B1 ≠ [] → y.1 < x.1) :
    (∀ x ∈ A1 ++ B1, ∀ y ∈ A2 ++ B2, x.1 ≤ y.1) ∧ (∀ x ∈ A2, ∀ y ∈ B1, x.1 ≠ y.1) := by
  have g1 := List.pairwise_append.1 h1
  have g2 := List.pairwise_append.1 h2
  have h12 : ∀ x ∈ A1, ∀ y ∈ B2, x.1 ≤ y.1 := by
    intro x hx y hy
    obtain ⟨i, hi, rfl⟩ := List.getElem_of_mem hx
    obtain ⟨j, hj, rfl⟩ := List.getElem_of_mem hy
    have hne : A1 ≠ [] := fun e => by rw [e] at hi; simp at hi
    have hl : A1.length - 1 < A1.length := by omega
    have e1 : (A1 ++ A2)[A1.length - 1]? = some (A1[A1.length - 1]) := by rw [List.getElem?_append_left hl, List.getElem?_eq_getElem hl]
    have e0 : B2[0]? = some (B2[0]'(by omega)) := List.getElem?_eq_getElem _
    have a1 := srt_le g1.1 (List.getElem?_eq_getElem hi) (List.getElem?_eq_getElem hl) (by omega)
    have a2 := f1 _ _ e1 e0 hne
    have a3 := srt_le g2.2.1 e0 (List.getElem?_eq_getElem hj) (by omega)
    omega
  have h21 : ∀ x ∈ A2, ∀ y ∈ B1, y.1 < x.1 := by
    intro x hx y hy
    obtain ⟨i, hi, rfl⟩ := List.getElem_of_mem hx
    obtain ⟨j, hj, rfl⟩ := List.getElem_of_mem hy
    have hne : B1 ≠ [] := fun e => by rw [e] at hj; simp at hj
    have hl : B1.length - 1 < B1.length := by omega
    have e1 : (B1 ++ B2)[B1.length - 1]? = some (B1[B1.length - 1]) := by rw [List.getElem?_append_left hl, List.getElem?_eq_getElem hl]
    have e0 : A2[0]? = some (A2[0]'(by omega)) := List.getElem?_eq_getElem _
    have a1 := srt_le g2.1 (List.getElem?_eq_getElem hj) (List.getElem?_eq_getElem hl) (by omega)
    have a2 := f2 _ _ e0 e1 hne
    have a3 := srt_le g1.2.1 e0 (List.getElem?_eq_getElem hi) (by omega)
    omega
  refine ⟨fun x hx y hy => ?_, fun x hx y hy => by have := h21 x hx y hy; omega⟩
  rcases List.mem_append.1 hx with hx | hx <;> rcases List.mem_append.1 hy with hy | hy
  · exact g1.2.2 x hx y hy
  · exact h12 x hx y hy
  · have := h21 y hy x hx; omega
  · exact g2.2.2 x hx y hy

theorem srt_app {u v : List Bk} (hu : Srt u) (hv : Srt v) (h : ∀ x ∈ u, ∀ y ∈ v, x.1 ≤ y.1) : Srt (u ++ v) := List.pairwise_append.2 ⟨hu, hv, h⟩
theorem srt_join {A1 A2 B1 B2 C1 C2 : List Bk} (h : ∀ x ∈ A1 ++ B1, ∀ y ∈ A2 ++ B2, x.1 ≤ y.1) (hr : ∀ x ∈ A2, ∀ y ∈ B1, x.1 ≠ y.1) (c1 : Srt C1 ∧ StEq (A1 ++ B1) C1) (c2 : Srt C2 ∧ StEq (A2 ++ B2) C2) :
    Srt (C1 ++ C2) ∧ StEq ((A1 ++ A2) ++ (B1 ++ B2)) (C1 ++ C2) := by
  refine ⟨srt_app c1.1 c2.1 (fun x hx y hy => h x (c1.2.1.mem_iff.2 hx) y (c2.2.1.mem_iff.2 hy)), ?_⟩
  refine StEq.trans ?_ (c1.2.append c2.2)
  have := ((StEq.refl A1).append ((StEq.rot hr).append (StEq.refl B2)))
  simpa using this

set_option maxRecDepth 100000 in
set_option maxHeartbeats 16000000 in
theorem SymC_calls (N : Nat) (ih : SymSaid N) (b n cap base a m e : Nat) (p s1 s2 q : List Bk) (w : World) (ho : Ow 2 bkc 56 base w (.slice (some ⟨b, 0, none⟩) n cap) (p ++ (s1 ++ (s2 ++ q)))) (hA : a = p.length) (hM : m = a + s1.length) (hE : e = m + s2.length) (hs1 : Srt s1) (hs2 : Srt s2) (hl1 : 2 ≤ s1.length) (hl2 : 2 ≤ s2.length) (hn : n ≤ 1048576) (hN : s1.length + s2.length ≤ N + 1) :
    Calls Try.prog 123 #[.slice (some ⟨b, 0, none⟩) n cap, .int .i64 (a : Int), .int .i64 (m : Int), .int .i64 (e : Int), .func (.func 66) #[] #[]] w fun e' w' => e' = .returned (.tuple #[]) ∧
      ∃ s', Ow 2 bkc 56 base w' (.slice (some ⟨b, 0, none⟩) n cap) (p ++ (s' ++ q)) ∧ Srt s' ∧ StEq (s1 ++ s2) s' ∧ w.grownBy w' (some b) := by
  have eg : ∀ args w, (callFunc 66 args).run Try.prog w = .ok (.enter 66 args) w := enters_of Try.func66 (by kernel_rfl) rfl
  have hnl := ho.len_bk
  have hen : e ≤ n := by rw [hnl]; simp; omega
  have hme : m + 2 ≤ e := by omega
  have ham : a + 2 ≤ m := by omega
  have hone0 : ((m : Int) - (a : Int) == 1) = false := by rw [beq_eq_false_iff_ne]; omega
  have hone1 : ((e : Int) - (m : Int) == 1) = false := by rw [beq_eq_false_iff_ne]; omega
  obtain ⟨mid, hmid⟩ : ∃ mid, mid = (a + e) / 2 := ⟨_, rfl⟩
  obtain ⟨nn, hnn⟩ : ∃ nn, nn = mid + m := ⟨_, rfl⟩
  obtain ⟨pp, hpp⟩ : ∃ pp, nn = pp + 1 := ⟨nn - 1, by omega⟩
  have hmidz := hide (show ((a : Int) + (e : Int)) / 2 = (mid : Int) by omega)
  have hnnz := hide (show (mid : Int) + (m : Int) = (nn : Int) by omega)
  have hppz := hide (show (nn : Int) - 1 = (pp : Int) by omega)
  have hcases : ∃ st0 r0 : Nat, a ≤ st0 ∧ st0 ≤ r0 ∧ r0 ≤ m ∧ r0 ≤ mid ∧ nn ≤ e + st0 ∧ (st0 = a ∨ nn = e + st0) ∧ (r0 = m ∨ r0 = mid) ∧ ((((a : Int) + (e : Int)) / 2 < (m : Int) ∧ (nn : Int) - (e : Int) = (st0 : Int) ∧ (mid : Int) = (r0 : Int)) ∨ (¬ ((a : Int) + (e : Int)) / 2 < (m : Int) ∧ (a : Int) = (st0 : Int) ∧ (m : Int) = (r0 : Int))) := by as_aux_lemma =>
    by_cases hgt : mid < m
    · exact ⟨nn - e, mid, by omega, by omega, by omega, by omega, by omega, .inr (by omega), .inr rfl, .inl ⟨by omega, by omega, rfl⟩⟩
    · exact ⟨a, m, by omega, by omega, by omega, by omega, by omega, .inl rfl, .inl rfl, .inr ⟨by omega, rfl, rfl⟩⟩
  obtain ⟨st0, r0, ha0, h0r, hr0, hr0m, hne0, hedge1, hedge2, hcase⟩ := hcases
  have hmae : a < mid ∧ mid < e := by omega
  have HE1 := hide hedge1
  have HE2 := hide hedge2
  have HO := hide ho
  have HA := hide hA
  have HM := hide hM
  have HE := hide hE
  have HS1 := hide hs1
  have HS2 := hide hs2
  have HN := hide hN
  have IH := hide ih
  have HPP := hide hpp
  have HNN := hide hnn
  have hnn2 : nn ≤ 2097152 := by omega
  have hpp2 : pp ≤ 2097152 := by omega
  have hmm : mid ≤ 1048576 := by omega
  clear ho hA hM hE hnl hs1 hs2 hN ih hmid hpp hnn hedge1 hedge2 hl1 hl2
  have HCASE := hide hcase
  clear hcase
  go_enter Try.func123, Try.ntmps123
  go_upto_if 140 with (fail)
  simp only [hmidz.out, hnnz.out, hppz.out]
  go_cut [20, 21] (fun s20 s21 wc => s20 = .int .i64 (st0 : Int) ∧ s21 = .int .i64 (r0 : Int) ∧ Hid (wc = w))
  case first => as_aux_lemma =>
    rcases HCASE.out with ⟨hlt0, hst0, hr0z⟩ | ⟨hlt0, hst0, hr0z⟩
    · have HST0 := hide hst0
      have HR0 := hide hr0z
      rw [hmidz.out] at hlt0
      clear hst0 hr0z
      go_wp2
      go_meet
      exact ⟨congrArg (Value.int .i64) HST0.out, congrArg (Value.int .i64) HR0.out, (hide rfl)⟩
    · have HST0 := hide hst0
      have HR0 := hide hr0z
      rw [hmidz.out] at hlt0
      clear hst0 hr0z
      go_wp2
      go_meet
      exact ⟨congrArg (Value.int .i64) HST0.out, congrArg (Value.int .i64) HR0.out, (hide rfl)⟩
  case rest =>
    obtain ⟨rfl, rfl, hwc⟩ := hcut
    obtain rfl : w = wc := hwc.out.symm
    clear hwc
    go_wp2
    simp only [hppz.out]
    go_loopg [20, 21] (r0 - st0) (fun gg s20 s21 wr => ∃ (st r : Nat), st0 ≤ st ∧ st ≤ r ∧ r ≤ r0 ∧ r - st ≤ gg ∧ s20 = .int .i64 (st : Int) ∧ s21 = .int .i64 (r : Int) ∧ Hid (st0 < st → ∀ x y, s1[st - 1 - a]? = some x → s2[nn - st - m]? = some y → x.1 ≤ y.1) ∧ Hid (r < r0 → ∀ x y, s1[r - a]? = some x → s2[pp - r - m]? = some y → y.1 < x.1) ∧ Hid (Ow 2 bkc 56 base wr (.slice (some ⟨b, 0, none⟩) n cap) (p ++ (s1 ++ (s2 ++ q)))) ∧ Hid (w.grownBy wr (some b)))
    case atStart => exact ⟨st0, r0, Nat.le_refl _, h0r, Nat.le_refl _, Nat.le_refl _, rfl, rfl, (hide (fun h => by omega)), (hide (fun h => by omega)), HO, World.grownBy.refl _ _⟩
    case round =>
      obtain ⟨st, r, hst, hstr, hrr, hg, rfl, rfl, F1, F2, OW, GB⟩ := hrel
      obtain ⟨wq, hwq⟩ : ∃ wq, wq = wr := ⟨_, rfl⟩
      subst hwq
      by_cases hlt : st < r
      · have hltz : (st : Int) < (r : Int) := by omega
        have hrn : r ≤ 1048576 := by omega
        obtain ⟨c, hc⟩ : ∃ c, c = (st + r) / 2 := ⟨_, rfl⟩
        have hcz := hide (show ((st : Int) + (r : Int)) / 2 = (c : Int) by omega)
        have hc1 : st ≤ c := by omega
        have hc2 : c < r := by omega
        obtain ⟨l, hl⟩ : ∃ l, pp = l + c := ⟨pp - c, by have := HPP.out; have := HNN.out; omega⟩
        have hlw := hide (show IntKind.i64.wrap ((pp : Int) - (c : Int)) = (l : Int) by rw [IntWalk.i64_in _ (by omega)]; omega)
        have hml : m ≤ l := by have := HPP.out; have := HNN.out; omega
        have hle : l < e := by have := HPP.out; have := HNN.out; omega
        obtain ⟨k1, hk1⟩ : ∃ k1, c = a + k1 := ⟨c - a, by omega⟩
        obtain ⟨k2, hk2⟩ : ∃ k2, l = m + k2 := ⟨l - m, by omega⟩
        have hk1l : k1 < s1.length := by have := HM.out; omega
        have hk2l : k2 < s2.length := by have := HE.out; omega
        obtain ⟨x1, x2, hx0⟩ : ∃ x1 x2, s1[k1] = (x1, x2) := ⟨_, _, rfl⟩
        obtain ⟨y1, y2, hy0⟩ : ∃ y1 y2, s2[k2] = (y1, y2) := ⟨_, _, rfl⟩
        have hx1 : s1[k1]? = some (x1, x2) := by rw [List.getElem?_eq_getElem hk1l, hx0]
        have hy1 : s2[k2]? = some (y1, y2) := by rw [List.getElem?_eq_getElem hk2l, hy0]
        have hx : (p ++ (s1 ++ (s2 ++ q)))[c]? = some (x1, x2) := by
          have h1 := HA.out
          rw [List.getElem?_append_right (by omega), show c - p.length = k1 by omega, List.getElem?_append_left hk1l]; exact hx1
        have hy : (p ++ (s1 ++ (s2 ++ q)))[l]? = some (y1, y2) := by
          have h1 := HA.out
          have h2 := HM.out
          rw [List.getElem?_append_right (by omega), show l - p.length = s1.length + k2 by omega, List.getElem?_append_right (by omega), Nat.add_sub_cancel_left, List.getElem?_append_left hk2l]; exact hy1
        have cx1 := hide (OW.out.cells_at hx).1
        have cx2 := hide (OW.out.cells_at hx).2
        have cy1 := hide (OW.out.cells_at hy).1
        have cy2 := hide (OW.out.cells_at hy).2
        have hcn : (c : Int) < (n : Int) := by omega
        have hln : (l : Int) < (n : Int) := by omega
        have HX1 := hide hx1
        have HY1 := hide hy1
        have HK1 := hide hk1
        have HK2 := hide hk2
        have HL := hide hl
        obtain ⟨z, hz⟩ : ∃ z : Bool, (!decide (cmpI y1 x1 < 0)) = z := ⟨_, rfl⟩
        have hzz := hide hz
        clear hc hk1 hk2 hx0 hy0 hx1 hy1 hx hy hz hl
        go_wp2
        rw [hcz.out]
        refine wp_region_grow 220 [158, 159, 160, 161, 162, 163, 164, 165, 166, 167, 168, 169, 170, 171] (Below wq.heap.size wq) (TC35 b n cap pp c l x1 x2 y1 y2 z) (by kernel_rfl) (by kernel_rfl) rfl (by kernel_rfl) (by kernel_rfl) (Below.refl _ _).drew (TC35_st b n cap pp c l x1 x2 y1 y2 z) ⟨⟨⟨⟨⟨⟨⟨⟨⟨⟨⟨⟨⟨⟨trivial, ?o0⟩, ?o1⟩, ?o2⟩, ?o3⟩, ?o4⟩, ?o5⟩, ?o6⟩, ?o7⟩, ?o8⟩, ?o9⟩, ?o10⟩, ?o11⟩, ?o12⟩, ?o13⟩ ?_
        case o0 =>
          intro g wr hB hk hp K hK
          have p4 : g 4 = .func (.func 66) #[] #[] := Option.some.inj (hk 4 (by decide) (by kernel_rfl))
          have HB := hide hB
          clear hB hk hp
          have e4 := actOf_get 220 g ([] : List Deferred) 4 (by omega) p4
          refine wpOp_free rfl rfl ?_
          go_simp
          exact hK _ _ (Below.refl _ _) HB.out (by first | rfl | simp)
        case o1 =>
          intro g wr hB hk hp K hK
          have p0 : g 0 = .slice (some ⟨b, 0, none⟩) n cap := Option.some.inj (hk 0 (by decide) (by kernel_rfl))
          have HB := hide hB
          clear hB hk hp
          have e0 := actOf_get 220 g ([] : List Deferred) 0 (by omega) p0
          refine wpOp_free rfl rfl ?_
          go_simp
          exact hK _ _ (Below.refl _ _) HB.out (by first | rfl | simp)
        case o2 =>
          intro g wr hB hk hp K hK
          have p22 : g 22 = .int .i64 (pp : Int) := Option.some.inj (hk 22 (by decide) (by kernel_rfl))
          have HB := hide hB
          clear hB hk hp
          have e22 := actOf_get 220 g ([] : List Deferred) 22 (by omega) p22
          refine wpOp_free rfl rfl ?_
          go_simp
          exact hK _ _ (Below.refl _ _) HB.out (by first | rfl | simp)
        case o3 =>
          intro g wr hB hk hp K hK
          have p23 : g 23 = .int .i64 (c : Int) := Option.some.inj (hk 23 (by decide) (by kernel_rfl))
          have HB := hide hB
          clear hB hk hp
          have e23 := actOf_get 220 g ([] : List Deferred) 23 (by omega) p23
          refine wpOp_free rfl rfl ?_
          go_simp
          exact hK _ _ (Below.refl _ _) HB.out (by first | rfl | simp)
        case o4 =>
          intro g wr hB hk hp K hK
          have p160 : g 160 = .int .i64 (pp : Int) := hp 2 (by kernel_rfl)
          have p161 : g 161 = .int .i64 (c : Int) := hp 3 (by kernel_rfl)
          have HB := hide hB
          clear hB hk hp
          have e160 := actOf_get 220 g ([] : List Deferred) 160 (by omega) p160
          have e161 := actOf_get 220 g ([] : List Deferred) 161 (by omega) p161
          refine wpOp_free rfl rfl ?_
          go_simp
          exact hK _ _ (Below.refl _ _) HB.out (congrArg (Value.int .i64) hlw.out)
        case o5 =>
          intro g wr hB hk hp K hK
          have p159 : g 159 = .slice (some ⟨b, 0, none⟩) n cap := hp 1 (by kernel_rfl)
          have p162 : g 162 = .int .i64 (l : Int) := hp 4 (by kernel_rfl)
          have HB := hide hB
          clear hB hk hp
          have e159 := actOf_get 220 g ([] : List Deferred) 159 (by omega) p159
          have e162 := actOf_get 220 g ([] : List Deferred) 162 (by omega) p162
          refine wpOp_free rfl rfl ?_
          go_simp
          exact hK _ _ (Below.refl _ _) HB.out (by first | rfl | simp)
        case o6 =>
          intro g wr hB hk hp K hK
          have p163 : g 163 = .pointer (some ⟨b, l * 2, none⟩) := hp 5 (by kernel_rfl)
          have HB := hide hB
          clear hB hk hp
          have lc0 := cell_later HB.out cy1.out
          have lc1 := cell_later HB.out cy2.out
          have e163 := actOf_get 220 g ([] : List Deferred) 163 (by omega) p163
          refine wpOp_free rfl rfl ?_
          go_simp
          exact hK _ _ (Below.refl _ _) HB.out (by first | rfl | simp)
        case o7 =>
          intro g wr hB hk hp K hK
          have p0 : g 0 = .slice (some ⟨b, 0, none⟩) n cap := Option.some.inj (hk 0 (by decide) (by kernel_rfl))
          have HB := hide hB
          clear hB hk hp
          have e0 := actOf_get 220 g ([] : List Deferred) 0 (by omega) p0
          refine wpOp_free rfl rfl ?_
          go_simp
          exact hK _ _ (Below.refl _ _) HB.out (by first | rfl | simp)
        case o8 =>
          intro g wr hB hk hp K hK
          have p23 : g 23 = .int .i64 (c : Int) := Option.some.inj (hk 23 (by decide) (by kernel_rfl))
          have HB := hide hB
          clear hB hk hp
          have e23 := actOf_get 220 g ([] : List Deferred) 23 (by omega) p23
          refine wpOp_free rfl rfl ?_
          go_simp
          exact hK _ _ (Below.refl _ _) HB.out (by first | rfl | simp)
        case o9 =>
          intro g wr hB hk hp K hK
          have p165 : g 165 = .slice (some ⟨b, 0, none⟩) n cap := hp 7 (by kernel_rfl)
          have p166 : g 166 = .int .i64 (c : Int) := hp 8 (by kernel_rfl)
          have HB := hide hB
          clear hB hk hp
          have e165 := actOf_get 220 g ([] : List Deferred) 165 (by omega) p165
          have e166 := actOf_get 220 g ([] : List Deferred) 166 (by omega) p166
          refine wpOp_free rfl rfl ?_
          go_simp
          exact hK _ _ (Below.refl _ _) HB.out (by first | rfl | simp)
        case o10 =>
          intro g wr hB hk hp K hK
          have p167 : g 167 = .pointer (some ⟨b, c * 2, none⟩) := hp 9 (by kernel_rfl)
          have HB := hide hB
          clear hB hk hp
          have lc0 := cell_later HB.out cx1.out
          have lc1 := cell_later HB.out cx2.out
          have e167 := actOf_get 220 g ([] : List Deferred) 167 (by omega) p167
          refine wpOp_free rfl rfl ?_
          go_simp
          exact hK _ _ (Below.refl _ _) HB.out (by first | rfl | simp)
        case o11 =>
          intro g wr hB hk hp K hK
          have p158 : g 158 = .func (.func 66) #[] #[] := hp 0 (by kernel_rfl)
          have p164 : g 164 = .agg #[.int .i64 y1, .int .i64 y2] := hp 6 (by kernel_rfl)
          have p168 : g 168 = .agg #[.int .i64 x1, .int .i64 x2] := hp 10 (by kernel_rfl)
          have HB := hide hB
          clear hB hk hp
          have e158 := actOf_get 220 g ([] : List Deferred) 158 (by omega) p158
          have e164 := actOf_get 220 g ([] : List Deferred) 164 (by omega) p164
          have e168 := actOf_get 220 g ([] : List Deferred) 168 (by omega) p168
          refine wpOp_free rfl rfl ?_
          go_simp
          refine (cmpId_calls (y1, y2) (x1, x2) _).mono ?_
          rintro e w' ⟨rfl, hb⟩
          exact hK _ _ hb (below_then HB.out HB.out.size hb) rfl
        case o12 =>
          intro g wr hB hk hp K hK
          have p169 : g 169 = .int .i64 (cmpI y1 x1) := hp 11 (by kernel_rfl)
          have HB := hide hB
          clear hB hk hp
          have e169 := actOf_get 220 g ([] : List Deferred) 169 (by omega) p169
          refine wpOp_free rfl rfl ?_
          go_simp
          exact hK _ _ (Below.refl _ _) HB.out (by first | rfl | simp)
        case o13 =>
          intro g wr hB hk hp K hK
          have p170 : g 170 = .bool (decide (cmpI y1 x1 < 0)) := hp 12 (by kernel_rfl)
          have HB := hide hB
          clear hB hk hp
          have e170 := actOf_get 220 g ([] : List Deferred) 170 (by omega) p170
          refine wpOp_free rfl rfl ?_
          go_simp
          exact hK _ _ (Below.refl _ _) HB.out (congrArg Value.bool hzz.out)
        intro g wr hB hP
        have hp2 : g 171 = .bool z := hP 13 (by decide)
        have HB := hide hB
        clear hP hB
        simp only [putAll, Act.put, List.setIfInBounds_toArray, List.set_cons_zero, List.set_cons_succ, hp2]
        clear hp2
        cases z with
        | true =>
          have hxy : x1 ≤ y1 := cmpI_nneg (show ¬ cmpI y1 x1 < 0 by simpa using hzz.out)
          have HXY := hide hxy
          clear hxy
          go_wp2
          go_roundg (r - (c + 1))
          case measure => omega
          case rel => exact ⟨c + 1, r, by omega, hc2, hrr, Nat.le_refl _, by go_num, rfl, (hide (fun _ x y hx hy => by
              have e1 : c + 1 - 1 - a = k1 := by have := HK1.out; omega
              have e2 : nn - (c + 1) - m = k2 := by have := HPP.out; have := HL.out; have := HK2.out; omega
              rw [e1, HX1.out] at hx
              rw [e2, HY1.out] at hy
              cases hx; cases hy
              exact HXY.out)), F2, (hide (OW.out.below HB.out)), grownBy_below GB.out HB.out⟩
        | false =>
          have hxy : y1 < x1 := cmpI_neg (show cmpI y1 x1 < 0 by simpa using hzz.out)
          have HXY := hide hxy
          clear hxy
          go_wp2
          go_roundg (c - st)
          case measure => omega
          case rel => exact ⟨st, c, hst, hc1, by omega, Nat.le_refl _, rfl, rfl, F1, (hide (fun _ x y hx hy => by
              have e1 : c - a = k1 := by have := HK1.out; omega
              have e2 : pp - c - m = k2 := by have := HL.out; have := HK2.out; omega
              rw [e1, HX1.out] at hx
              rw [e2, HY1.out] at hy
              cases hx; cases hy
              exact HXY.out)), (hide (OW.out.below HB.out)), grownBy_below GB.out HB.out⟩
      · have hltz : ¬ (st : Int) < (r : Int) := by omega
        have : st = r := by omega
        subst this
        obtain ⟨en, hen2⟩ : ∃ en, nn = en + st := ⟨nn - st, by have := HPP.out; have := HNN.out; omega⟩
        have henz := hide (show (nn : Int) - (st : Int) = (en : Int) by omega)
        have hme2 : m ≤ en := by have := HNN.out; omega
        have hee : en ≤ e := by omega
        obtain ⟨A1, A2, hs1, hA1⟩ : ∃ A1 A2, s1 = A1 ++ A2 ∧ a + A1.length = st := ⟨s1.take (st - a), s1.drop (st - a), (List.take_append_drop _ _).symm, by rw [List.length_take, Nat.min_eq_left (by have := HM.out; omega)]; omega⟩
        obtain ⟨B1, B2, hs2, hB1⟩ : ∃ B1 B2, s2 = B1 ++ B2 ∧ m + B1.length = en := ⟨s2.take (en - m), s2.drop (en - m), (List.take_append_drop _ _).symm, by rw [List.length_take, Nat.min_eq_left (by have := HE.out; omega)]; omega⟩
        have hA2 : st + A2.length = m := by have := HM.out; rw [hs1, List.length_append] at this; omega
        have hB2 : en + B2.length = e := by have := HE.out; rw [hs2, List.length_append] at this; omega
        have hmide : st + B1.length = mid := by have := HNN.out; omega
        have hmide2 : mid + A2.length = en := by omega
        have hcut : (∀ x ∈ A1 ++ B1, ∀ y ∈ A2 ++ B2, x.1 ≤ y.1) ∧ (∀ x ∈ A2, ∀ y ∈ B1, x.1 ≠ y.1) := by as_aux_lemma =>
          have g1 := HS1.out
          have g2 := HS2.out
          rw [hs1] at g1
          rw [hs2] at g2
          refine cut_facts g1 g2 (fun x y hx hy hne => ?_) (fun x y hx hy hne => ?_)
          · have hb2 : 0 < B2.length := (List.getElem?_eq_some_iff.1 hy).1
            have ha1 : 0 < A1.length := List.length_pos_iff.2 hne
            have := HE1.out
            refine F1.out (by omega) x y (by rw [hs1, show st - 1 - a = A1.length - 1 by omega]; exact hx) (by rw [hs2, show nn - st - m = B1.length by omega, List.getElem?_append_right (Nat.le_refl _), Nat.sub_self]; exact hy)
          · have ha2 : 0 < A2.length := (List.getElem?_eq_some_iff.1 hx).1
            have hb1 : 0 < B1.length := List.length_pos_iff.2 hne
            have := HE2.out
            have := HPP.out
            refine F2.out (by omega) x y (by rw [hs1, show st - a = A1.length by omega, List.getElem?_append_right (Nat.le_refl _), Nat.sub_self]; exact hx) (by rw [hs2, show pp - st - m = B1.length - 1 by omega]; exact hy)
        have HCUT := hide hcut
        have g1 := HS1.out
        have g2 := HS2.out
        rw [hs1] at g1
        rw [hs2] at g2
        have HG1 := hide (List.pairwise_append.1 g1)
        have HG2 := hide (List.pairwise_append.1 g2)
        have HSE := hide (And.intro hs1 hs2)
        have OWs := OW.out
        rw [hs1, hs2] at OWs
        have OWR : Hid (Ow 2 bkc 56 base wq (.slice (some ⟨b, 0, none⟩) n cap) ((p ++ A1) ++ (A2 ++ (B1 ++ (B2 ++ q))))) := hide (by simpa using OWs)
        clear OWs
        have HN2 := hide (show A1.length + A2.length + (B1.length + B2.length) ≤ N + 1 by have := HN.out; rw [hs1, hs2, List.length_append, List.length_append] at this; exact this)
        have HA1 := hide hA1
        have HA2 := hide hA2
        have HB1 := hide hB1
        have HB2 := hide hB2
        have HMI := hide hmide
        have HMI2 := hide hmide2
        clear hcut hs1 hs2 hA1 hB1 hA2 hB2 hmide hmide2 g1 g2 hen2
        obtain ⟨z1, hz1⟩ : ∃ z1 : Bool, (z1 = true ∧ (st : Int) < (m : Int) ∧ (m : Int) < (en : Int) ∧ 0 < A2.length ∧ 0 < B1.length) ∨ (z1 = false ∧ (((st : Int) < (m : Int) ∧ ¬ (m : Int) < (en : Int)) ∨ ¬ (st : Int) < (m : Int)) ∧ (A2 = [] ∨ B1 = [])) := by as_aux_lemma =>
          have h1 := HA2.out
          have h2 := HB1.out
          by_cases h : st < m ∧ m < en
          · exact ⟨true, .inl ⟨rfl, by omega, by omega, by omega, by omega⟩⟩
          · refine ⟨false, .inr ⟨rfl, by omega, ?_⟩⟩
            by_cases h3 : st < m
            · exact .inr (List.eq_nil_of_length_eq_zero (by omega))
            · exact .inl (List.eq_nil_of_length_eq_zero (by omega))
        obtain ⟨z2, hz2⟩ : ∃ z2 : Bool, (z2 = true ∧ (a : Int) < (st : Int) ∧ (st : Int) < (mid : Int) ∧ 0 < A1.length ∧ 0 < B1.length) ∨ (z2 = false ∧ (((a : Int) < (st : Int) ∧ ¬ (st : Int) < (mid : Int)) ∨ ¬ (a : Int) < (st : Int)) ∧ Srt (A1 ++ B1)) := by as_aux_lemma =>
          have h1 := HA1.out
          have h2 := HMI.out
          by_cases h : a < st ∧ st < mid
          · exact ⟨true, .inl ⟨rfl, by omega, by omega, by omega, by omega⟩⟩
          · refine ⟨false, .inr ⟨rfl, by omega, ?_⟩⟩
            by_cases h3 : a < st
            · rw [List.eq_nil_of_length_eq_zero (show B1.length = 0 by omega), List.append_nil]; exact HG1.out.1
            · rw [List.eq_nil_of_length_eq_zero (show A1.length = 0 by omega), List.nil_append]; exact HG2.out.1
        obtain ⟨z3, hz3⟩ : ∃ z3 : Bool, (z3 = true ∧ (mid : Int) < (en : Int) ∧ (en : Int) < (e : Int) ∧ 0 < A2.length ∧ 0 < B2.length) ∨ (z3 = false ∧ (((mid : Int) < (en : Int) ∧ ¬ (en : Int) < (e : Int)) ∨ ¬ (mid : Int) < (en : Int)) ∧ Srt (A2 ++ B2)) := by as_aux_lemma =>
          have h1 := HB2.out
          have h2 := HMI2.out
          by_cases h : mid < en ∧ en < e
          · exact ⟨true, .inl ⟨rfl, by omega, by omega, by omega, by omega⟩⟩
          · refine ⟨false, .inr ⟨rfl, by omega, ?_⟩⟩
            by_cases h3 : mid < en
            · rw [List.eq_nil_of_length_eq_zero (show B2.length = 0 by omega), List.append_nil]; exact HG1.out.2.1
            · rw [List.eq_nil_of_length_eq_zero (show A2.length = 0 by omega), List.nil_append]; exact HG2.out.2.1
        have HZ1 := hide hz1
        have HZ2 := hide hz2
        have HZ3 := hide hz3
        clear hz1 hz2 hz3
        go_upto_region 39 with (fail)
        simp only [henz.out]
        go_cut [185] (fun s wc => s = .bool z1 ∧ Hid (wc = wq))
        case first => as_aux_lemma =>
          rcases HZ1.out with ⟨h1, h2, h3, _⟩ | ⟨h1, ⟨h2, h3⟩ | h2, _⟩
          all_goals
            subst h1
            go_wp2
            go_meet
            exact ⟨rfl, (hide rfl)⟩
        case rest =>
          obtain ⟨rfl, hwc⟩ := hcut
          obtain rfl : wq = wc := hwc.out.symm
          clear hwc
          go_upto_if 185 with (fail)
          go_cut [] (fun wc2 => Hid (Ow 2 bkc 56 base wc2 (.slice (some ⟨b, 0, none⟩) n cap) (p ++ (A1 ++ (B1 ++ (A2 ++ (B2 ++ q)))))) ∧ Hid (w.grownBy wc2 (some b)))
          case first => as_aux_lemma =>
            rcases HZ1.out with ⟨h1, _, _, h4, h5⟩ | ⟨h1, _, h4⟩
            · subst h1
              have HCON := hide (Rotate_calls b n cap base st m en (p ++ A1) A2 B1 (B2 ++ q) (.func (.func 66) #[] #[]) wq OWR.out (by rw [List.length_append, ← HA.out, HA1.out]) HA2.out.symm HB1.out.symm h4 h5 hn)
              go_wp2_with (go_at_call 142; refine HCON.out.mono ?_; rintro e' w' ⟨rfl, ho2, hg2⟩; have HO2 := hide ho2; have HG2x := hide hg2; clear ho2 hg2)
              go_meet
              exact ⟨(hide (by simpa using HO2.out)), (hide (grownBy_step GB.out HG2x.out))⟩
            · subst h1
              have HL4 := hide h4
              clear h4
              go_wp2
              go_meet
              exact ⟨(hide (by have h := OWR.out; rcases HL4.out with e | e <;> (rw [e] at h ⊢; simpa using h))), GB⟩
          case rest =>
            obtain ⟨OW1, GB1⟩ := hcut
            obtain ⟨wd, hwd⟩ : ∃ wd, wd = wc := ⟨_, rfl⟩
            subst hwd
            go_upto_region 41 with (fail)
            go_cut [199] (fun s wc => s = .bool z2 ∧ Hid (wc = wd))
            case first => as_aux_lemma =>
              rcases HZ2.out with ⟨h1, h2, h3, _⟩ | ⟨h1, ⟨h2, h3⟩ | h2, _⟩
              all_goals
                subst h1
                go_wp2
                go_meet
                exact ⟨rfl, (hide rfl)⟩
            case rest =>
              obtain ⟨rfl, hwc⟩ := hcut
              obtain rfl : wd = wc := hwc.out.symm
              clear hwc
              go_upto_if 199 with (fail)
              go_cut [] (fun wc2 => ∃ C1, Hid (Ow 2 bkc 56 base wc2 (.slice (some ⟨b, 0, none⟩) n cap) (p ++ (C1 ++ (A2 ++ (B2 ++ q))))) ∧ Hid (w.grownBy wc2 (some b)) ∧ Hid (Srt C1 ∧ StEq (A1 ++ B1) C1))
              case first => as_aux_lemma =>
                rcases HZ2.out with ⟨h1, _, _, h4, h5⟩ | ⟨h1, _, h4⟩
                · subst h1
                  have HCON := hide (IH.out b n cap base a st mid p A1 B1 (A2 ++ (B2 ++ q)) wd OW1.out HA.out HA1.out.symm HMI.out.symm HG1.out.1 HG2.out.1 h4 h5 hn (by have h6 := HN2.out; have h7 := HMI2.out; have h8 := HB2.out; have h9 := hmae.2; omega))
                  go_wp2_with (go_at_call 123; refine HCON.out.mono ?_; rintro e' w' ⟨rfl, s', ho2, hs2, hq2, hg2⟩; have HO2 := hide ho2; have HG2x := hide hg2; have HSx := hide (And.intro hs2 hq2); clear ho2 hg2 hs2 hq2)
                  go_meet
                  exact ⟨s', HO2, (hide (grownBy_step GB1.out HG2x.out)), HSx⟩
                · subst h1
                  have HL4 := hide h4
                  clear h4
                  go_wp2
                  go_meet
                  exact ⟨A1 ++ B1, (hide (by simpa using OW1.out)), GB1, (hide ⟨HL4.out, StEq.refl _⟩)⟩
              case rest =>
                obtain ⟨C1, OW2, GB2, HC1⟩ := hcut
                obtain ⟨we, hwe⟩ : ∃ we, we = wc := ⟨_, rfl⟩
                subst hwe
                go_upto_region 43 with (fail)
                go_cut [213] (fun s wc => s = .bool z3 ∧ Hid (wc = we))
                case first => as_aux_lemma =>
                  rcases HZ3.out with ⟨h1, h2, h3, _⟩ | ⟨h1, ⟨h2, h3⟩ | h2, _⟩
                  all_goals
                    subst h1
                    go_wp2
                    go_meet
                    exact ⟨rfl, (hide rfl)⟩
                case rest =>
                  obtain ⟨rfl, hwc⟩ := hcut
                  obtain rfl : we = wc := hwc.out.symm
                  clear hwc
                  have HCL := hide (HC1.out.2.len)
                  rcases HZ3.out with ⟨h1, _, _, h4, h5⟩ | ⟨h1, _, h4⟩
                  · subst h1
                    have HCON := hide (IH.out b n cap base mid en e (p ++ C1) A2 B2 q we (by simpa using OW2.out) (by have h6 := HCL.out; rw [List.length_append] at h6 ⊢; rw [← h6, ← HA.out]; have h7 := HA1.out; have h8 := HMI.out; omega) HMI2.out.symm HB2.out.symm HG1.out.2.1 HG2.out.2.1 h4 h5 hn (by have h6 := HN2.out; have h7 := HA1.out; have h8 := HMI.out; have h9 := hmae.1; omega))
                    go_wp2_with (go_at_call 123; refine HCON.out.mono ?_; rintro e' w' ⟨rfl, s', ho2, hs2, hq2, hg2⟩; have HO2 := hide ho2; have HG2x := hide hg2; have HSx := hide (And.intro hs2 hq2); clear ho2 hg2 hs2 hq2)
                    go_end0
                    have hj := srt_join HCUT.out.1 HCUT.out.2 HC1.out HSx.out
                    refine ⟨rfl, C1 ++ s', by simpa using HO2.out, hj.1, ?_, grownBy_step GB2.out HG2x.out⟩
                    rw [HSE.out.1, HSE.out.2]; exact hj.2
                  · subst h1
                    have HL4 := hide h4
                    clear h4
                    go_wp2
                    go_end0
                    have hj := srt_join HCUT.out.1 HCUT.out.2 HC1.out ⟨HL4.out, StEq.refl _⟩
                    refine ⟨rfl, C1 ++ (A2 ++ B2), by simpa using OW2.out, hj.1, ?_, GB2.out⟩
                    rw [HSE.out.1, HSE.out.2]; exact hj.2

theorem Sym_calls : ∀ N, SymSaid N
  | 0 => fun b n cap base a m e p s1 s2 q w ho hA hM hE hs1 hs2 hl1 hl2 hn hN => by omega
  | N + 1 => fun b n cap base a m e p s1 s2 q w ho hA hM hE hs1 hs2 hl1 hl2 hn hN => by
    by_cases h1 : s1.length = 1
    · match s1, h1 with
      | [x], _ => exact SymA_calls b n cap base a m e p s2 q x.1 x.2 w (by simpa using ho) hA (by simpa using hM) hE hs2 hn
    · by_cases h2 : s2.length = 1
      · match s2, h2 with
        | [x], _ => exact SymB_calls b n cap base a m e p s1 q x.1 x.2 w (by simpa using ho) hA hM (by simpa using hE) hs1 h1 hn
      · exact SymC_calls N (Sym_calls N) b n cap base a m e p s1 s2 q w ho hA hM hE hs1 hs2 (by omega) (by omega) hn hN
end Go.Proofs.Ytiaifphidcfddaa
