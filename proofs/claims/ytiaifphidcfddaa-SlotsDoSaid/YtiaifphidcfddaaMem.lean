/-
  Words on memory that the walks of this seat share: how a slice reads as a list, a row of the call's own, append.
-/
import Derived.WalkKit
import Derived.Deep.LoopGhost
import Derived.Deep.QuietTactic
import Derived.BigQuiet
import Derived.Maps.AppendAt
import Derived.Laws.AppendOwnNone
import Derived.WalkSmall
import Derived.WalkSpells
set_option linter.unusedVariables false
set_option linter.unusedSimpArgs false
namespace Go.Proofs.Ytiaifphidcfddaa
open Go.RowKit

theorem hide {p : Prop} (h : p) : Hid p := h

/-- The slice value '.slice a n _' reads, in world w, as the list xs of elements of k cells each. -/
def Rd {α : Type} (k : Nat) (enc : α → List Value) (w : World) (a : Option Addr) (n : Nat) (xs : List α) : Prop :=
  n = xs.length ∧ n ≤ maxLen ∧ (a = none → xs = []) ∧ ∀ p, a = some p → 0 < n → p.spot = none ∧ p.block < w.heap.size ∧ ∀ j x, xs[j]? = some x → ∀ i u, (enc x)[i]? = some u → w.cell? ⟨p.block, p.off + j * k + i, none⟩ = some u

section
variable {α : Type} {k : Nat} {enc : α → List Value} {w W : World} {a : Option Addr} {n : Nat} {xs : List α}

theorem Rd.len (h : Rd k enc w a n xs) : n = xs.length := h.1
theorem Rd.le (h : Rd k enc w a n xs) : (n : Int) ≤ 9223372036854775807 := by have := h.2.1; unfold maxLen at this; omega

theorem Rd.below (h : Rd k enc w a n xs) (hb : Below w.heap.size w W) : Rd k enc W a n xs := by
  obtain ⟨h1, h2, h3, h4⟩ := h
  refine ⟨h1, h2, h3, fun p hp h0 => ?_⟩
  obtain ⟨hs, hlt, hc⟩ := h4 p hp h0
  exact ⟨hs, Nat.lt_of_lt_of_le hlt hb.size, fun j x hx i u hu => (hb.cell (p := ⟨p.block, p.off + j * k + i, none⟩) hlt).trans (hc j x hx i u hu)⟩

/-- The like where just the row's own block is known to lie as it lay. -/
theorem Rd.kept (h : Rd k enc w a n xs) (hs : w.heap.size ≤ W.heap.size) (hb : ∀ p, a = some p → 0 < n → W.heap[p.block]? = w.heap[p.block]?) : Rd k enc W a n xs := by
  obtain ⟨h1, h2, h3, h4⟩ := h
  refine ⟨h1, h2, h3, fun p hp h0 => ?_⟩
  obtain ⟨hsp, hlt, hc⟩ := h4 p hp h0
  exact ⟨hsp, Nat.lt_of_lt_of_le hlt hs, fun j x hx i u hu => (World.cell?_of_block (w := w) (a := ⟨p.block, p.off + j * k + i, none⟩) (hb p hp h0)).trans (hc j x hx i u hu)⟩

theorem Rd.at_ (h : Rd k enc w a n xs) (j : Nat) (hj : j < n) :
    ∃ b off x, a = some ⟨b, off, none⟩ ∧ xs[j]? = some x ∧ b < w.heap.size ∧ ∀ i u, (enc x)[i]? = some u → w.cell? ⟨b, off + j * k + i, none⟩ = some u := by
  obtain ⟨h1, h2, h3, h4⟩ := h
  cases a with
  | none => have := h3 rfl; subst this; simp at h1; omega
  | some p =>
    obtain ⟨hs, hlt, hc⟩ := h4 p rfl (by omega)
    obtain ⟨b, off, sp⟩ := p
    simp only at hs; subst hs
    exact ⟨b, off, xs[j], rfl, List.getElem?_eq_getElem (by omega), hlt, fun i u hu => hc j _ (List.getElem?_eq_getElem (by omega)) i u hu⟩

theorem Rd.nil (w : World) : Rd k enc w none 0 [] := ⟨rfl, Nat.zero_le _, fun _ => rfl, fun p hp => by cases hp⟩

/-- The first few of them. -/
theorem Rd.take (h : Rd k enc w a n xs) (m : Nat) (hm : m ≤ n) : Rd k enc w a m (xs.take m) := by
  obtain ⟨h1, h2, h3, h4⟩ := h
  refine ⟨by rw [List.length_take]; omega, by omega, fun e => by rw [h3 e]; simp, fun p hp h0 => ?_⟩
  obtain ⟨hs, hlt, hc⟩ := h4 p hp (by omega)
  refine ⟨hs, hlt, fun j x hx => hc j x ?_⟩
  rw [List.getElem?_take] at hx
  split at hx
  · exact hx
  · cases hx
end

/-! ### Encodings -/
abbrev Bk := Int × Int
def bkc (x : Bk) : List Value := [.int .i64 x.1, .int .i64 x.2]
def i64c (x : Int) : List Value := [.int .i64 x]

theorem Rd.at_bk {w : World} {a : Option Addr} {n : Nat} {xs : List Bk} (h : Rd 2 bkc w a n xs) (j : Nat) (hj : j < n) :
    ∃ b off x1 x2, a = some ⟨b, off, none⟩ ∧ xs[j]? = some (x1, x2) ∧ b < w.heap.size ∧ w.cell? ⟨b, off + j * 2, none⟩ = some (.int .i64 x1) ∧ w.cell? ⟨b, off + j * 2 + 1, none⟩ = some (.int .i64 x2) := by
  obtain ⟨b, off, ⟨x1, x2⟩, ha, hx, hb, hc⟩ := h.at_ j hj
  exact ⟨b, off, x1, x2, ha, hx, hb, hc 0 _ rfl, hc 1 _ rfl⟩
theorem Rd.at_i64 {w : World} {a : Option Addr} {n : Nat} {xs : List Int} (h : Rd 1 i64c w a n xs) (j : Nat) (hj : j < n) :
    ∃ b off x, a = some ⟨b, off, none⟩ ∧ xs[j]? = some x ∧ b < w.heap.size ∧ w.cell? ⟨b, off + j, none⟩ = some (.int .i64 x) := by
  obtain ⟨b, off, x, ha, hx, hb, hc⟩ := h.at_ j hj
  exact ⟨b, off, x, ha, hx, hb, by have := hc 0 _ rfl; simpa using this⟩

/-! ### A row of the call's own -/
/-- The value v owns, from block base on, a row that holds xs. -/
def Ow {α : Type} (k : Nat) (enc : α → List Value) (e : TypeId) (base : Nat) (w : World) (v : Value) (xs : List α) : Prop :=
  w.ownsRow base e k v xs.length (xs.flatMap enc)

theorem flatMap_get {α : Type} {k : Nat} {enc : α → List Value} (hk : ∀ x, (enc x).length = k) : ∀ (xs : List α) (j i : Nat) (x : α), xs[j]? = some x → i < k → (xs.flatMap enc)[j * k + i]? = (enc x)[i]?
  | [], j, i, x, h, _ => by simp at h
  | y :: ys, 0, i, x, h, hi => by
    simp at h; subst h
    simp only [List.flatMap_cons, Nat.zero_mul, Nat.zero_add]
    exact List.getElem?_append_left (by rw [hk]; exact hi)
  | y :: ys, j + 1, i, x, h, hi => by
    simp only [List.getElem?_cons_succ] at h
    simp only [List.flatMap_cons]
    rw [List.getElem?_append_right (by rw [hk, Nat.add_mul]; omega), hk]
    rw [show (j + 1) * k + i - k = j * k + i from by rw [Nat.add_mul]; omega]
    exact flatMap_get hk ys j i x h hi

theorem flatMap_len {α : Type} {k : Nat} {enc : α → List Value} (hk : ∀ x, (enc x).length = k) (xs : List α) : (xs.flatMap enc).length = xs.length * k := by
  induction xs with
  | nil => simp
  | cons y ys ih => simp only [List.flatMap_cons, List.length_append, List.length_cons, Nat.add_mul, hk, ih]; omega

theorem flatMap_take {α : Type} {k : Nat} {enc : α → List Value} (hk : ∀ x, (enc x).length = k) (xs : List α) (i : Nat) (hi : i ≤ xs.length) : (xs.flatMap enc).take (i * k) = (xs.take i).flatMap enc := by
  conv => lhs; rw [← List.take_append_drop i xs]
  rw [List.flatMap_append]
  have e3 : i * k = ((xs.take i).flatMap enc).length := by rw [flatMap_len hk, List.length_take, Nat.min_eq_left hi]
  rw [e3, List.take_left]

/-- A cell of an old block reads the same behind a new block. -/
theorem cell_old {W : World} {a : Addr} {v : Value} (o : Obj) (h : W.cell? a = some v) : (W.alloc o).cell? a = some v := by
  have hlt : a.block < W.heap.size := World.block_lt_of_cell? W a h
  rw [← h]
  simp only [World.cell?, World.alloc, Array.getElem?_push, Nat.ne_of_lt hlt, if_false]

theorem flatMap_set {α : Type} {k : Nat} {enc : α → List Value} (hk : ∀ x, (enc x).length = k) : ∀ (xs : List α) (j : Nat) (x : α), j < xs.length →
    (xs.set j x).flatMap enc = (xs.flatMap enc).take (j * k) ++ enc x ++ (xs.flatMap enc).drop (j * k + k)
  | [], j, x, h => by simp at h
  | y :: ys, 0, x, _ => by
    simp only [List.set_cons_zero, List.flatMap_cons, Nat.zero_mul, List.take_zero, List.nil_append, Nat.zero_add]
    rw [List.drop_append_of_le_length (by rw [hk]; exact Nat.le_refl _), List.drop_of_length_le (by rw [hk]; exact Nat.le_refl _), List.nil_append]
  | y :: ys, j + 1, x, h => by
    simp only [List.set_cons_succ, List.flatMap_cons]
    rw [flatMap_set hk ys j x (by simpa using h)]
    have e : (j + 1) * k = (enc y).length + j * k := by rw [hk, Nat.add_mul]; omega
    rw [e, List.take_length_add_append, show (enc y).length + j * k + k = (enc y).length + (j * k + k) from by omega, List.drop_length_add_append]
    simp

section
variable {α : Type} {k : Nat} {enc : α → List Value} {e : TypeId} {base : Nat} {w W : World} {v : Value} {xs : List α}

theorem Ow.form (h : Ow k enc e base w v xs) (hk : ∀ x, (enc x).length = k) : ∃ a cap, v = .slice a xs.length cap ∧ Rd k enc w a xs.length xs ∧ (∀ p, a = some p → base ≤ p.block ∧ p.off = 0 ∧ v.ownBlock = some p.block) := by
  have h0 := h
  obtain ⟨hl, h⟩ := h
  rcases h with ⟨hv, hn⟩ | ⟨g, cap, cur, hv, hg, hh, hc, hm, hs, ht⟩
  · have : xs = [] := List.eq_nil_of_length_eq_zero hn
    subst this
    exact ⟨none, 0, by rw [hv]; rfl, Rd.nil _, fun p hp => by cases hp⟩
  · refine ⟨_, cap, hv, ⟨rfl, (by omega), (fun e => (by cases e)), (fun p hp _ => ?_)⟩, (fun p hp => (by cases hp; exact ⟨hg, rfl, by rw [hv]; rfl⟩))⟩
    cases hp
    refine ⟨rfl, (Array.getElem?_eq_some_iff.1 hh).1, fun j x hx i u hu => ?_⟩
    have hi : i < k := by rw [← hk x]; exact (List.getElem?_eq_some_iff.1 hu).1
    have := World.ownsRow.cells h0 (g := g) (by rw [hv]; rfl) (j * k + i) u (by rw [flatMap_get hk xs j i x hx hi]; exact hu)
    have hadd : (⟨g, 0, none⟩ : Addr).add (j * k + i) = ⟨g, j * k + i, none⟩ := by unfold Addr.add; split <;> simp_all
    rw [hadd] at this
    simpa using this

theorem Ow.below (h : Ow k enc e base w v xs) (hb : Below w.heap.size w W) : Ow k enc e base W v xs :=
  World.ownsRow.kept h (row := none) ⟨hb.os, hb.tape, hb.output, hb.size, fun i hi _ => hb.block i hi⟩ (by cases v.ownBlock <;> simp)

theorem Ow.alloc (h : Ow k enc e base w v xs) (o : Obj) : Ow k enc e base (w.alloc o) v xs := World.ownsRow.alloc h o
theorem Ow.kept {row : Option Nat} (h : Ow k enc e base w v xs) (hg : w.grownBy W row) (hne : v.ownBlock = none ∨ v.ownBlock ≠ row) : Ow k enc e base W v xs := World.ownsRow.kept h hg hne
theorem Ow.nil : Ow k enc e base w (.slice none 0 0) ([] : List α) := World.ownsRow_nil ..

theorem Ow.mono {base' : Nat} (h : Ow k enc e base w v xs) (hb : base' ≤ base) : Ow k enc e base' w v xs := by
  obtain ⟨hl, h⟩ := h
  refine ⟨hl, ?_⟩
  rcases h with h | ⟨g, cap, cur, hv, hg, r⟩
  · exact .inl h
  · exact .inr ⟨g, cap, cur, hv, by omega, r⟩
end

theorem bkc_len (x : Bk) : (bkc x).length = 2 := rfl
theorem i64c_len (x : Int) : (i64c x).length = 1 := rfl

theorem grownBy_of_below {w w1 : World} (h : Below w.heap.size w w1) (row : Option Nat) : w.grownBy w1 row := ⟨h.os, h.tape, h.output, h.size, fun i hi _ => h.block i hi⟩
theorem below_then {B : Nat} {w w1 w2 : World} (h : Below B w w1) (hB : B ≤ w1.heap.size) (k : Below w1.heap.size w1 w2) : Below B w w2 :=
  h.trans (k.mono hB)
/-- All old cells and marks read as before. -/
theorem bcell {W w1 : World} (hb : Below W.heap.size W w1) : (∀ b o, b < W.heap.size → w1.cell? ⟨b, o, none⟩ = W.cell? ⟨b, o, none⟩) ∧ (∀ b o, b < W.heap.size → w1.frozen? ⟨b, o, none⟩ = W.frozen? ⟨b, o, none⟩) :=
  ⟨fun b o h => hb.cell (p := ⟨b, o, none⟩) h, fun b o h => hb.frozen (p := ⟨b, o, none⟩) h⟩

/-- A row that has just been laid. -/
theorem Rd_fresh {α : Type} {k : Nat} {enc : α → List Value} (hk : ∀ x, (enc x).length = k) (w : World) (cs : Array Value) (e : TypeId) (n : Nat) (xs : List α) (hcs : cs.toList = xs.flatMap enc) (hn : n = xs.length) (hm : n ≤ 4294967296) (B : Nat) (hB : w.heap.size = B) :
    Rd k enc (w.alloc (.cells cs e)) (some ⟨B, 0, none⟩) n xs := by
  subst hB
  refine ⟨hn, by unfold maxLen; omega, fun h => (by cases h), fun p hp _ => ?_⟩
  cases hp
  refine ⟨rfl, by simp, fun j x hx i u hu => ?_⟩
  have hi : i < k := by rw [← hk x]; exact (List.getElem?_eq_some_iff.1 hu).1
  have := flatMap_get hk xs j i x hx hi
  rw [← hcs, hu] at this
  simp only [World.cell?, World.alloc, Array.getElem?_push_size, Nat.zero_add]
  simpa using this

/-! ### append -/
/-- What a slice's element type is. -/
structure El (P : Program) (t e : TypeId) (k bytes : Nat) (z : Value) : Prop where
  ht : P.underlying t = some (.slice e)
  hi : ∃ i, P.info? e = some i ∧ i.zero = some z ∧ i.size = k ∧ i.bytes = bytes
  hz : z.cells.size = k
  hk : 0 < k
theorem El.of {P : Program} {t e : TypeId} {k bytes : Nat} {z : Value} (ht : P.underlying t = some (.slice e)) (h : (P.info? e).map (fun i => (i.zero, i.size, i.bytes)) = some (some z, k, bytes)) (hz : z.cells.size = k) (hk : 0 < k) : El P t e k bytes z := by
  obtain ⟨i, hi, h1, h2, h3⟩ := info_parts h
  exact ⟨ht, ⟨i, hi, h1, h2, h3⟩, hz, hk⟩

section
variable {P : Program} {w : World} {ops : Array Oper} {rest : List Oper} {o : Oper} {a : Act} {Q : Exit → Act → World → Prop} {t e : TypeId} {k bytes : Nat} {z : Value} {α : Type} {enc : α → List Value}

/-- 'append(out, x)': x's cells have just been laid. -/
theorem wpList_app1 (E : El P t e k bytes z) (enc : α → List Value) (hk : ∀ x, (enc x).length = k) (h1 : ∀ x, ∀ u ∈ enc x, u.oneCell' = true) (hgd : o.guard = none) (s x : Operand)
    (ho : o.op = .call { callee := .builtin .append, args := #[s, x], argTypes := #[t, t] }) (base : Nat) (v : Value) (xs : List α) (y : α) (news : Array Value) (hnews : news = (enc y).toArray) (hs : a.eval s = v) (hown : Ow k enc e base w v xs)
    (hx : a.eval x = .slice (some ⟨w.heap.size, 0, none⟩) 1 1) (hb : base ≤ w.heap.size) (hn : xs.length < 4294967296) (hby : bytes ≤ 1024)
    (K : ∀ v' w', Ow k enc e base w' v' (xs ++ [y]) → w.grownBy w' v.ownBlock → Below base w w' → wpList P ops Q rest (a.put o.dst v') w') :
    wpList P ops Q (o :: rest) a (w.alloc (.cells news e)) := by
  subst hnews
  obtain ⟨i, hi, hz0, hz1, hz2⟩ := E.hi
  have hlen : (enc y).length = 1 * k := by rw [hk]; omega
  have hcell : ∀ j u, (enc y)[j]? = some u → (w.alloc (.cells (enc y).toArray e)).cell? ((⟨w.heap.size, 0, none⟩ : Addr).add j) = some u := fun j u hu => by
    have hadd : (⟨w.heap.size, 0, none⟩ : Addr).add j = ⟨w.heap.size, j, none⟩ := by unfold Addr.add; split <;> simp_all
    rw [hadd]
    simp only [World.cell?, World.alloc, Array.getElem?_push_size]
    simpa using hu
  have hB : (xs.length + 1) * bytes ≤ 140737488355328 := by
    have : (xs.length + 1) * bytes ≤ 4294967296 * 1024 := Nat.mul_le_mul (by omega) hby
    omega
  refine wpList_append_own _ hgd s x t ho base e i z k bytes E.ht hi hz0 hz1 hz2 E.hz E.hk v xs.length (xs.flatMap enc) hs (hown.alloc _) ⟨w.heap.size, 0, none⟩ 1 1 (enc y) hx hlen hcell (h1 y) (by unfold maxLen; omega) hB (by simp; omega) ?_
  intro v' w' h2 h3 h4
  have h3' : w.grownBy w' v.ownBlock := (World.grownBy_alloc w _ _).trans h3
  refine K v' w' ?_ h3' ?_
  · have : (xs ++ [y]).flatMap enc = xs.flatMap enc ++ enc y := by simp
    show w'.ownsRow base e k v' (xs ++ [y]).length ((xs ++ [y]).flatMap enc)
    rw [this, List.length_append]; exact h2
  · exact (Below.refl base w).grown h3' hb (fun j hj => (World.ownsRow.lt hown j hj).1)

/-- 'append(out, ys...)'. -/
theorem wpList_apps (E : El P t e k bytes z) (enc : α → List Value) (hk : ∀ x, (enc x).length = k) (h1 : ∀ x, ∀ u ∈ enc x, u.oneCell' = true) (hgd : o.guard = none) (s x : Operand)
    (ho : o.op = .call { callee := .builtin .append, args := #[s, x], argTypes := #[t, t] }) (base : Nat) (v : Value) (xs ys : List α) (hs : a.eval s = v) (hown : Ow k enc e base w v xs) (ao : Option Addr) (cap : Nat)
    (hx : a.eval x = .slice ao ys.length cap) (hr : Rd k enc w ao ys.length ys) (hcap : ao = none → cap = 0) (hb : base ≤ w.heap.size) (hn : xs.length + ys.length < 4294967296) (hby : bytes ≤ 1024)
    (K : ∀ v' w', Ow k enc e base w' v' (xs ++ ys) → w.grownBy w' v.ownBlock → Below base w w' → (v' = .slice none 0 0 ↔ v = .slice none 0 0 ∧ ys = []) → wpList P ops Q rest (a.put o.dst v') w') :
    wpList P ops Q (o :: rest) a w := by
  obtain ⟨i, hi, hz0, hz1, hz2⟩ := E.hi
  have hlen : (ys.flatMap enc).length = ys.length * k := by
    clear hr hx hown hn K
    induction ys with
    | nil => simp
    | cons y ys ih => simp only [List.flatMap_cons, List.length_append, List.length_cons, Nat.add_mul, hk, ih]; omega
  have hB : (xs.length + ys.length) * bytes ≤ 140737488355328 := by
    have : (xs.length + ys.length) * bytes ≤ 4294967296 * 1024 := Nat.mul_le_mul (by omega) hby
    omega
  have fin : ∀ (v' : Value) (w' : World), w'.ownsRow base e k v' (xs.length + ys.length) (xs.flatMap enc ++ ys.flatMap enc) → w.grownBy w' v.ownBlock → (v' = .slice none 0 0 ↔ v = .slice none 0 0 ∧ ys.length = 0) → wpList P ops Q rest (a.put o.dst v') w' := by
    intro v' w' h2 h3 h4
    refine K v' w' ?_ h3 ?_ ?_
    · have : (xs ++ ys).flatMap enc = xs.flatMap enc ++ ys.flatMap enc := by simp
      show w'.ownsRow base e k v' (xs ++ ys).length ((xs ++ ys).flatMap enc)
      rw [this, List.length_append]; exact h2
    · exact (Below.refl base w).grown h3 hb (fun j hj => (World.ownsRow.lt hown j hj).1)
    · rw [h4, List.length_eq_zero_iff]
  cases ao with
  | none =>
    have := hr.2.2.1 rfl
    subst this
    have hc := hcap rfl
    subst hc
    refine wpList_append_own_none hgd s x t ho base e i k E.ht hi v xs.length (xs.flatMap enc) hs hown hx ?_
    exact fin v w (by have := hown; unfold Ow at this; simpa using this) (World.grownBy.refl _ _) (by simp)
  | some p =>
    by_cases hy0 : ys = []
    · subst hy0
      refine wpList_append_own _ hgd s x t ho base e i z k bytes E.ht hi hz0 hz1 hz2 E.hz E.hk v xs.length (xs.flatMap enc) hs hown p 0 cap [] hx (by simp) (fun j u hu => by simp at hu) (fun u hu => by simp at hu) (by unfold maxLen; omega) (by simpa using hB) hb (fun v' w' h1 h2 h3 => fin v' w' (by simpa using h1) h2 (by simpa using h3))
    have hy1 : 0 < ys.length := List.length_pos_iff.2 hy0
    obtain ⟨hsp, hlt, hc⟩ := hr.2.2.2 p rfl hy1
    obtain ⟨b, off, sp⟩ := p
    simp only at hsp; subst hsp
    refine wpList_append_own _ hgd s x t ho base e i z k bytes E.ht hi hz0 hz1 hz2 E.hz E.hk v xs.length (xs.flatMap enc) hs hown ⟨b, off, none⟩ ys.length cap (ys.flatMap enc) hx hlen ?_ ?_ (by unfold maxLen; omega) hB hb fin
    · intro j u hu
      have hjk : j < ys.length * k := by rw [← hlen]; exact (List.getElem?_eq_some_iff.1 hu).1
      have hkp := E.hk
      have hq : j / k < ys.length := by rw [Nat.div_lt_iff_lt_mul hkp]; exact hjk
      have hd : j / k * k + j % k = j := Nat.div_add_mod' j k
      have hxj : ys[j / k]? = some ys[j / k] := List.getElem?_eq_getElem hq
      have hget := flatMap_get hk ys (j / k) (j % k) _ hxj (Nat.mod_lt _ hkp)
      rw [hd, hu] at hget
      have := hc (j / k) _ hxj (j % k) u hget.symm
      have hadd : (⟨b, off, none⟩ : Addr).add j = ⟨b, off + j, none⟩ := by unfold Addr.add; split <;> simp_all
      rw [hadd]
      rw [show off + j / k * k + j % k = off + j from by omega] at this
      exact this
    · intro u hu
      rw [List.mem_flatMap] at hu
      obtain ⟨x, _, hx'⟩ := hu
      exact h1 x u hx'
end
end Go.Proofs.Ytiaifphidcfddaa
