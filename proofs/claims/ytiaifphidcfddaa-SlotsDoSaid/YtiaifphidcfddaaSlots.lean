/-
  slots: put, New, read.
-/
import Derived.Test.YtiaifphidcfddaaOf
import Derived.Test.YtiaifphidcfddaaPool3
set_option linter.unusedVariables false
set_option linter.unusedSimpArgs false
namespace Go.Proofs.Ytiaifphidcfddaa
open Go.RowKit Go.Shelf

/-- What stands in a slot. -/
inductive Sl
  | spoilt | building | ready (p : List Bk)

/-- The value v, in world w, is the slot s; it lies apart from block h. -/
def SlVal (w : World) (h : Nat) (v : Value) : Sl → Prop
  | .spoilt => v = .nilIface
  | .building => v = .iface 92 (.agg #[])
  | .ready p => ∃ a n cap b m cap2, v = .iface 79 (.agg #[.slice a n cap, .slice b m cap2]) ∧ (Rd 2 bkc w a n p ∧ (∀ q, a = some q → 0 < n → q.block ≠ h)) ∧ Rd 2 ptc w b m (ofP p) ∧ (∀ q, b = some q → 0 < m → q.block ≠ h) ∧ m < 4294967296

theorem SlVal.kept {w W : World} {h : Nat} {v : Value} {s : Sl} (k : SlVal w h v s) (hs : w.heap.size ≤ W.heap.size) (hb : ∀ i, i < w.heap.size → i ≠ h → W.heap[i]? = w.heap[i]?) : SlVal W h v s := by
  cases s with
  | spoilt => exact k
  | building => exact k
  | ready p =>
    obtain ⟨a, n, cap, b, m, cap2, hv, ⟨h1, h2⟩, h3, h4, h5⟩ := k
    exact ⟨a, n, cap, b, m, cap2, hv, ⟨h1.kept hs (fun q hq h0 => hb _ (h1.2.2.2 q hq h0).2.1 (h2 q hq h0)), h2⟩, h3.kept hs (fun q hq h0 => hb _ (h3.2.2.2 q hq h0).2.1 (h4 q hq h0)), h4, h5⟩

/-- At block g stands a Slots, whose row is block h; its slots are st. -/
def SlAt (w : World) (g h : Nat) (st : List Sl) : Prop :=
  w.heap[g]? = some (.cells #[.slice (some ⟨h, 0, none⟩) st.length st.length] 72 (0, 0)) ∧ g ≠ h ∧ st.length ≤ 8 ∧
  ∃ cur, w.heap[h]? = some (.cells cur 95 (0, 0)) ∧ cur.size = st.length ∧ ∀ (i : Nat) s, st[i]? = some s → ∃ v, cur[i]? = some v ∧ SlVal w h v s ∧ v.oneCell' = true

theorem SlAt.kept {w W : World} {g h : Nat} {st : List Sl} (k : SlAt w g h st) (hs : w.heap.size ≤ W.heap.size) (hb : ∀ i, i < w.heap.size → W.heap[i]? = w.heap[i]?) : SlAt W g h st := by
  obtain ⟨h1, h2, h3, cur, h4, h5, h6⟩ := k
  refine ⟨(hb g (Array.getElem?_eq_some_iff.1 h1).1).trans h1, h2, h3, cur, (hb h (Array.getElem?_eq_some_iff.1 h4).1).trans h4, h5, fun i s hi => ?_⟩
  obtain ⟨v, hv, h7, h8⟩ := h6 i s hi
  exact ⟨v, hv, h7.kept hs (fun i hi _ => hb i hi), h8⟩
theorem SlAt.below {w W : World} {g h : Nat} {st : List Sl} (k : SlAt w g h st) (hb : Below w.heap.size w W) : SlAt W g h st := k.kept hb.size hb.block

/-- Is there such a slot? -/
def isS (st : List Sl) (i : Int) : Bool := decide (0 ≤ i) && decide (i < st.length)
def setS (st : List Sl) (i : Int) (s : Sl) : List Sl := if isS st i then st.set i.toNat s else st
theorem setS_len (st : List Sl) (i : Int) (s : Sl) : (setS st i s).length = st.length := by unfold setS; split <;> simp

theorem SlAt.ptr {w : World} {g h : Nat} {st : List Sl} (k : SlAt w g h st) : w.cell? ⟨g, 0, none⟩ = some (.slice (some ⟨h, 0, none⟩) st.length st.length) := by
  simp [World.cell?, k.1]
theorem SlAt.at_ {w : World} {g h : Nat} {st : List Sl} (k : SlAt w g h st) (i : Nat) (s : Sl) (hi : st[i]? = some s) : ∃ v, w.cell? ⟨h, i, none⟩ = some v ∧ SlVal w h v s ∧ v.oneCell' = true ∧ w.frozen? ⟨h, i, none⟩ = false := by
  obtain ⟨h1, h2, h3, cur, h4, h5, h6⟩ := k
  obtain ⟨v, hv, h7, h8⟩ := h6 i s hi
  exact ⟨v, by simp [World.cell?, h4, hv], h7, h8, by simp [World.frozen?, h4]⟩

theorem SlAt.set {w : World} {g h : Nat} {st : List Sl} (k : SlAt w g h st) (i : Nat) (s : Sl) (x : Value) (hi : i < st.length) (hx : SlVal w h x s) (h1x : x.oneCell' = true) :
    SlAt (w.setCell ⟨h, i, none⟩ x) g h (st.set i s) ∧ w.grownBy (w.setCell ⟨h, i, none⟩ x) (some h) := by
  obtain ⟨h1, h2, h3, cur, h4, h5, h6⟩ := k
  have hoth : ∀ j, j ≠ h → (w.setCell ⟨h, i, none⟩ x).heap[j]? = w.heap[j]? := fun j hj => Below.heap_setCell _ _ _ _ hj
  have hsz : (w.setCell ⟨h, i, none⟩ x).heap.size = w.heap.size := by simp
  have hnew : (w.setCell ⟨h, i, none⟩ x).heap[h]? = some (.cells (cur.setIfInBounds i x) 95 (0, 0)) := by
    obtain ⟨hlt2, hk2⟩ := Array.getElem?_eq_some_iff.1 h4
    show (w.heap.modify h _)[h]? = _
    rw [Array.getElem?_eq_getElem (by rw [Array.size_modify]; exact hlt2), Array.getElem_modify_self, hk2]
    rfl
  have hkeep : ∀ v t, SlVal w h v t → SlVal (w.setCell ⟨h, i, none⟩ x) h v t := fun v t hv => hv.kept (by rw [hsz]; exact Nat.le_refl _) (fun j _ hj => hoth j hj)
  refine ⟨⟨by rw [List.length_set]; exact (hoth g h2).trans h1, h2, by rw [List.length_set]; exact h3, _, hnew, by rw [Array.size_setIfInBounds, List.length_set]; exact h5, fun j t hj => ?_⟩, ?_⟩
  · rw [Array.getElem?_setIfInBounds]
    by_cases e : i = j
    · subst e
      rw [if_pos rfl, if_pos (by omega)]
      rw [List.getElem?_set_self hi] at hj
      cases hj
      exact ⟨x, rfl, hkeep _ _ hx, h1x⟩
    · rw [if_neg e]
      rw [List.getElem?_set_ne e] at hj
      obtain ⟨v, hv, h7, h8⟩ := h6 j t hj
      exact ⟨v, hv, hkeep _ _ h7, h8⟩
  · exact ⟨rfl, rfl, rfl, Nat.le_of_eq hsz.symm, fun j _ hne => hoth j (fun e => hne (by rw [e]))⟩

theorem isS_true {st : List Sl} {i : Int} (h : isS st i = true) : ∃ k : Nat, i = (k : Int) ∧ k < st.length := by
  unfold isS at h
  rw [Bool.and_eq_true, decide_eq_true_eq, decide_eq_true_eq] at h
  exact ⟨i.toNat, by omega, by omega⟩
theorem isS_false {st : List Sl} {i : Int} (h : isS st i = false) : i < 0 ∨ (0 ≤ i ∧ (st.length : Int) ≤ i) := by
  unfold isS at h
  rw [Bool.and_eq_false_iff, decide_eq_false_iff_not, decide_eq_false_iff_not] at h
  omega

/-! ### put -/
theorem put_no (g h : Nat) (st : List Sl) (i : Int) (x : Value) (w : World) (k : SlAt w g h st) (hi : isS st i = false) :
    Calls Try.prog 59 #[.pointer (some ⟨g, 0, none⟩), .int .i64 i, x] w fun e w' => e = .returned (.bool false) ∧ w' = w := by
  have hc := k.ptr
  have h8 := k.2.2.1
  clear k
  rcases isS_false hi with h1 | ⟨h1, h2⟩
  · clear hi
    go_enter Try.func59, Try.ntmps59
    go_wp2
    go_ret
    exact ⟨rfl, rfl⟩
  · clear hi
    have h1' : ¬ i < 0 := by omega
    generalize st.length = n at hc h2 h8
    go_enter Try.func59, Try.ntmps59
    go_wp2
    go_ret
    exact ⟨rfl, rfl⟩

theorem put_yes (g h : Nat) (st : List Sl) (i : Nat) (s : Sl) (x : Value) (w : World) (k : SlAt w g h st) (hi : i < st.length) (hx : SlVal w h x s) (h1x : x.oneCell' = true) :
    Calls Try.prog 59 #[.pointer (some ⟨g, 0, none⟩), .int .i64 (i : Int), x] w fun e w' => e = .returned (.bool true) ∧ SlAt w' g h (st.set i s) ∧ w.grownBy w' (some h) := by
  have hc := k.ptr
  have h8 := k.2.2.1
  have hform : x = .nilIface ∨ ∃ t y, x = .iface t y := by
    cases s with
    | spoilt => exact .inl hx
    | building => exact .inr ⟨_, _, hx⟩
    | ready p => obtain ⟨a, n, cap, b, m, cap2, hv, _⟩ := hx; exact .inr ⟨_, _, hv⟩
  obtain ⟨v, hv, -, h1v, hfr⟩ := k.at_ i st[i] (List.getElem?_eq_getElem hi)
  have K := hide (k.set i s x hi hx h1x)
  have h1' : ¬ (i : Int) < 0 := by omega
  have h2 : (i : Int) < (st.length : Int) := by omega
  clear k hx
  generalize st.length = n at hc h2 h8 hi
  rcases hform with rfl | ⟨ty, y, rfl⟩
  all_goals
    go_enter Try.func59, Try.ntmps59
    go_wp2
    go_ret
    exact ⟨rfl, K.out.1, K.out.2⟩
end Go.Proofs.Ytiaifphidcfddaa
