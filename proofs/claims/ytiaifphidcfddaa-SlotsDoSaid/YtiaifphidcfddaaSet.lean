/-
  A 'map[int]bool' that the call has made, used as a set: stores of true, look-ups, delete, a range over it.
-/
import Derived.Test.YtiaifphidcfddaaMem
import Derived.Maps.OwnSet
import Derived.Maps.OwnOps
import Derived.Maps.RangeWalk
import Derived.Maps.Views
set_option linter.unusedVariables false
set_option linter.unusedSimpArgs false
namespace Go.Proofs.Ytiaifphidcfddaa
open Go.RowKit Go.Maps

def I64 (x : Int) : Prop := -9223372036854775808 ≤ x ∧ x ≤ 9223372036854775807
theorem I64.wf {x : Int} (h : I64 x) : (Lit.int .i64 x).wf = true := WalkArith.wf_i64 h
theorem I64.of_wf {x : Int} (h : (Lit.int .i64 x).wf = true) : I64 x := by
  have hmin : IntKind.i64.min = -9223372036854775808 := rfl
  have hmax : IntKind.i64.max = 9223372036854775807 := rfl
  simp only [Lit.wf, Bool.and_eq_true, decide_eq_true_eq] at h
  unfold I64; omega
theorem isKey (x : Int) : WideAt.IsKeyLit (.int .i64 x) := by simp [WideAt.IsKeyLit]

/-- Datum D is the set S of numbers. -/
structure SetD (D : DataW Unit) (S : Int → Bool) : Prop where
  tidy : Tidy D
  has : ∀ y, I64 y → has D (.int .i64 y) = S y
  at_ : ∀ y, I64 y → S y = true → ∀ z, D.atKey (.int .i64 y) z = .lit (.bool true)
  no : ∀ y, I64 y → S y = false → ∀ z, D.atKey (.int .i64 y) z = z

theorem int_ne {x y : Int} (h : x ≠ y) : (Lit.int .i64 x) ≠ .int .i64 y := fun e => h (by cases e; rfl)

theorem SetD.empty : SetD (.map []) (fun _ => false) :=
  ⟨tidy_empty, fun y _ => rfl, fun y _ h => (by cases h), fun y _ _ z => rfl⟩
theorem SetD.put {D : DataW Unit} {S : Int → Bool} (h : SetD D S) (x : Int) : SetD (D.put (.int .i64 x) (.lit (.bool true))) (fun y => y == x || S y) := by
  refine ⟨h.tidy.put (isKey x) _, fun y hy => ?_, fun y hy hS z => ?_, fun y hy hS z => ?_⟩
  · by_cases e : y = x
    · subst e; simp [has_put_same h.tidy.isMap (isKey y)]
    · rw [has_put_other (int_ne e), h.has y hy]; simp [e]
  · by_cases e : y = x
    · subst e; exact atKey_put_same h.tidy.isMap (isKey y) _ _
    · rw [atKey_put_other (int_ne e)]; exact h.at_ y hy (by simpa [e] using hS) z
  · have e : y ≠ x := fun e => by simp [e] at hS
    rw [atKey_put_other (int_ne e)]; exact h.no y hy (by simpa [e] using hS) z
theorem SetD.del {D : DataW Unit} {S : Int → Bool} (h : SetD D S) (x : Int) : SetD (D.del (.int .i64 x)) (fun y => y != x && S y) := by
  refine ⟨h.tidy.del _, fun y hy => ?_, fun y hy hS z => ?_, fun y hy hS z => ?_⟩
  · by_cases e : y = x
    · subst e; simp [has_del_same]
    · rw [has_del_other (int_ne e), h.has y hy]; simp [e]
  · have e : y ≠ x := fun e => by simp [e] at hS
    rw [atKey_del_other (int_ne e)]; exact h.at_ y hy (by simpa [e] using hS) z
  · by_cases e : y = x
    · subst e; exact atKey_del_same _
    · rw [atKey_del_other (int_ne e)]; exact h.no y hy (by simpa [e] using hS) z

/-- Block b is a map[int]bool of at most n entries, and the set S. -/
def SetAt (P : Program) (k e : TypeId) (w : World) (b n : Nat) (S : Int → Bool) : Prop := ∃ D, w.ownsMap P k (plainElem P e) b n D ∧ SetD D S

section
variable {P : Program} {k e t : TypeId} {w W : World} {b n : Nat} {S : Int → Bool}
theorem SetAt.lt (h : SetAt P k e w b n S) : b < w.heap.size := by obtain ⟨D, h, _⟩ := h; exact h.lt
theorem SetAt.kept {row : Option Nat} (h : SetAt P k e w b n S) (hg : w.grownBy W row) (hne : some b ≠ row) : SetAt P k e W b n S := by
  obtain ⟨D, h, hD⟩ := h; exact ⟨D, h.kept hg hne, hD⟩
theorem SetAt.below (h : SetAt P k e w b n S) (hb : Below w.heap.size w W) : SetAt P k e W b n S := h.kept (grownBy_of_below hb none) (by simp)
theorem SetAt.alloc (h : SetAt P k e w b n S) (o : Obj) : SetAt P k e (w.alloc o) b n S := by obtain ⟨D, h, hD⟩ := h; exact ⟨D, h.alloc o, hD⟩
theorem SetAt.congr {S' : Int → Bool} (h : SetAt P k e w b n S) (he : ∀ y, S y = S' y) : SetAt P k e w b n S' := by have := funext he; subst this; exact h
theorem SetAt.made (w : World) (P : Program) (k e : TypeId) : SetAt P k e (w.alloc (.map #[] 0)) w.heap.size 0 (fun _ => false) := ⟨_, World.ownsMap_made w P k _, SetD.empty⟩

/-- What the type of the map is. -/
structure MapT (P : Program) (t k e : TypeId) : Prop where
  ht : P.underlying t = some (.map k e)
  hk : P.underlying k = some (.int .i64)
  he : P.underlying e = some .bool
  hz : ∀ w, (zeroValue e).run P w = .ok (.bool false) w

variable {ops : Array Oper} {rest : List Oper} {o : Oper} {a : Act} {Q : Exit → Act → World → Prop}

theorem SetAt.look (h : SetAt P k e w b n S) (M : MapT P t k e) {x : Int} (hx : I64 x) : (Instr.lookup t (.map (some b)) (.int .i64 x) false).run P w = .ok (.bool (S x)) w := by
  obtain ⟨D, h, hD⟩ := h
  obtain ⟨v, ps, hrun, hv⟩ := h.lookup (int_keyed M.hk) M.ht (M.hz w) (plainElem_bool M.he false) (keyOf_int_mk M.hk hx.wf)
  have : v = .bool (S x) := by
    cases hS : S x with
    | true =>
      rw [hD.at_ x hx hS] at hv
      unfold plainElem at hv
      rw [M.he] at hv
      cases v <;> simp at hv
      simp [hv]
    | false =>
      rw [hD.no x hx hS] at hv
      unfold plainElem at hv
      rw [M.he] at hv
      cases v <;> simp at hv
      simp [hv]
  rw [hrun, this]

theorem wpList_lookup_set (M : MapT P t k e) (hg : o.guard = none) (m x : Operand) (hop : o.op = Op.lookup t m x false) (h : SetAt P k e w b n S) {y : Int} (hy : I64 y)
    (hm : a.eval m = .map (some b)) (hx : a.eval x = .int .i64 y) (K : wpList P ops Q rest (a.put o.dst (.bool (S y))) w) : wpList P ops Q (o :: rest) a w := by
  refine wpList_plain hg fun K' hK' => ?_
  unfold Oper.wp
  simp [execOp, hop, hm, hx, h.look M hy, Result.andThen]
  exact hK' _ _ K

theorem wpList_update_set (M : MapT P t k e) (hg : o.guard = none) (m x v : Operand) (hop : o.op = Op.mapUpdate t m x v) (h : SetAt P k e w b n S) {y : Int} (hy : I64 y) (hn : n < 4294967296)
    (hm : a.eval m = .map (some b)) (hx : a.eval x = .int .i64 y) (hv : a.eval v = .bool true)
    (K : ∀ w', SetAt P k e w' b (n + 1) (fun z => z == y || S z) → w.grownBy w' (some b) → wpList P ops Q rest (a.put o.dst undef) w') : wpList P ops Q (o :: rest) a w := by
  obtain ⟨D, h, hD⟩ := h
  exact wpList_mapUpdate_own w hg m x v t hop k e (int_keyed M.hk) M.ht _ b n D hm h (by unfold maxLen; omega) _ _ (.int .i64 y) hx hv (keyOf_int_mk M.hk hy.wf) (.lit (.bool true)) [] (plainElem_bool M.he true)
    fun w' h' hg' => K w' ⟨_, h', hD.put y⟩ hg'

theorem wpList_delete_set (M : MapT P t k e) (hg : o.guard = none) (m x : Operand) (hop : o.op = Op.call { callee := Callee.builtin Builtin.delete, args := #[m, x], argTypes := #[t, k] }) (h : SetAt P k e w b n S) {y : Int} (hy : I64 y)
    (hm : a.eval m = .map (some b)) (hx : a.eval x = .int .i64 y)
    (K : ∀ w', SetAt P k e w' b n (fun z => z != y && S z) → w.grownBy w' (some b) → wpList P ops Q rest (a.put o.dst (.tuple #[])) w') : wpList P ops Q (o :: rest) a w := by
  obtain ⟨D, h, hD⟩ := h
  exact wpList_delete_own w hg m x t k hop e (int_keyed M.hk) M.ht _ b n D hm h _ (.int .i64 y) hx (keyOf_int_mk M.hk hy.wf) fun w' h' ht => K w' ⟨_, h', hD.del y⟩ ht.grown

/-- A range over the set, under way: 'S0' the set; 'left' what is still to come. -/
def RangeAt (P : Program) (k e : TypeId) (w : World) (b r n : Nat) (S left : Int → Bool) (cnt : Nat) : Prop :=
  ∃ D L, w.ranges P k (plainElem P e) b r n D L cnt ∧ SetD D S ∧ (∀ y, I64 y → L (.int .i64 y) = left y)

theorem RangeAt.kept {r : Nat} {left : Int → Bool} {cnt : Nat} {row : Option Nat} (h : RangeAt P k e w b r n S left cnt) (hg : w.grownBy W row) (hb : some b ≠ row) (hr : some r ≠ row) : RangeAt P k e W b r n S left cnt := by
  obtain ⟨D, L, h, h2⟩ := h; exact ⟨D, L, h.kept hg hb hr, h2⟩
theorem RangeAt.left_eq {r : Nat} {left : Int → Bool} {cnt : Nat} (h : RangeAt P k e w b r n S left cnt) : w.rangeLeft b r = cnt := by
  obtain ⟨D, L, h, _⟩ := h; exact h.left_eq
theorem RangeAt.lt {r : Nat} {left : Int → Bool} {cnt : Nat} (h : RangeAt P k e w b r n S left cnt) : r < w.heap.size ∧ b < w.heap.size := by
  obtain ⟨D, L, h, _⟩ := h; exact ⟨h.lt, h.owns.lt⟩

theorem RangeAt.apart {r : Nat} {left : Int → Bool} {cnt : Nat} (h : RangeAt P k e w b r n S left cnt) {α : Type} {kk : Nat} {enc : α → List Value} {t : TypeId} {base : Nat} {v : Value} {xs : List α} (ho : Ow kk enc t base w v xs) : some b ≠ v.ownBlock ∧ some r ≠ v.ownBlock := by
  obtain ⟨D, L, ⟨es, clock, since, se, c0, hb, _, _, _, hr, _⟩, _⟩ := h
  rcases ho.2 with ⟨hv, _⟩ | ⟨g, cap, cur, hv, _, hg, _⟩
  · subst hv; simp [Value.ownBlock]
  · subst hv
    simp only [Value.ownBlock, ne_eq, Option.some.injEq]
    exact ⟨fun e => (by subst e; rw [hb] at hg; cases hg), fun e => (by subst e; rw [hr] at hg; cases hg)⟩

theorem wpList_range_set (M : MapT P t k e) (hg : o.guard = none) (m : Operand) (hop : o.op = Op.range t m) (h : SetAt P k e w b n S) (hm : a.eval m = .map (some b))
    (K : ∀ w' cnt, RangeAt P k e w' b w.heap.size n S S cnt → cnt ≤ n → w.grownBy w' none → w'.heap.size = w.heap.size + 1 → wpList P ops Q rest (a.put o.dst (.pointer (some ⟨w.heap.size, 0, none⟩))) w') : wpList P ops Q (o :: rest) a w := by
  obtain ⟨D, h, hD⟩ := h
  refine wpList_range_own w hg m t hop k e (int_keyed M.hk) M.ht _ b n D hm h fun w' hr hg' hs => K w' _ ⟨D, _, hr, hD, fun y hy => hD.has y hy⟩ h.size_le hg' hs

theorem wpList_next_set (M : MapT P t k e) (hg : o.guard = none) (it : Operand) (hop : o.op = Op.next it false) (r : Nat) (left : Int → Bool) (cnt : Nat) (hit : a.eval it = .pointer (some ⟨r, 0, none⟩)) (h : RangeAt P k e w b r n S left cnt)
    (hDone : cnt = 0 → (∀ y, I64 y → left y = false) → wpList P ops Q rest (a.put o.dst (.tuple #[.bool false])) w)
    (hMore : ∀ (x : Int) (c : Bool) (w' : World) (cnt' : Nat), I64 x → left x = true → S x = true → RangeAt P k e w' b r n S (fun z => z != x && left z) cnt' → cnt' < cnt → w.grownBy w' (some r) → w'.heap.size = w.heap.size →
      (Instr.entry (.pointer (some ⟨r, 0, none⟩))).run P w' = .ok (.tuple #[.int .i64 x, .bool c]) w' → wpList P ops Q rest (a.put o.dst (.tuple #[.bool true, .int .i64 x, .bool c])) w') : wpList P ops Q (o :: rest) a w := by
  obtain ⟨D, L, h, hD, hL⟩ := h
  refine wpList_next_ranges w hg it hop k (int_keyed M.hk) (plainElem P e) (Value.int .i64) Value.bool (fun key kl hkey => by obtain ⟨x, rfl, _⟩ := Maps.keyOf_int_inv M.hk hkey; exact ⟨x, rfl⟩) ?_ b r n D L cnt hit h ?_ ?_
  · intro v y hv
    unfold plainElem at hv
    rw [M.he] at hv
    cases v <;> simp at hv
    exact ⟨_, rfl⟩
  · exact fun h0 hl => hDone h0 (fun y hy => by rw [← hL y hy]; exact hl _)
  · intro x c kl y w' cnt' hkey hlk hv hat hrg hlt hgr hsz hen
    obtain ⟨x', ex, rfl, hwx⟩ := Maps.keyOf_int_inv M.hk hkey
    cases ex
    have hx : I64 x := I64.of_wf hwx
    have hSx : S x = true := by
      cases hS : S x with
      | true => rfl
      | false =>
        exfalso
        have h1 := hD.no x hx hS
        have e1 := (hat (.lit (.bool true))).symm.trans (h1 _)
        have e2 := (hat (.lit (.bool false))).symm.trans (h1 _)
        rw [e1] at e2; cases e2
    refine hMore x c w' cnt' hx (by rw [← hL x hx]; exact hlk) hSx ⟨D, _, hrg, hD, fun z hz => ?_⟩ hlt hgr hsz hen
    rw [hL z hz]
    by_cases e : z = x
    · subst e; simp [Lit.sameKey]
    · have : (Lit.int .i64 z).sameKey (.int .i64 x) = false := sameKey_ne (int_ne e)
      simp [this, e]
end
end Go.Proofs.Ytiaifphidcfddaa
