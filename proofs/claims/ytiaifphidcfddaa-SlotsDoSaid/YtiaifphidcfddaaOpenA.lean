/-
  Opening a row's arguments: a slice of acts.
-/
import Derived.Test.YtiaifphidcfddaaOpen
import Derived.Test.YtiaifphidcfddaaActs
import Derived.Deep.Strs
set_option linter.unusedVariables false
set_option linter.unusedSimpArgs false
set_option maxRecDepth 100000
namespace Go.Proofs.Ytiaifphidcfddaa
open Go.RowKit Go.ChangeShapes Go.WideShapes Go.Deep Go.Joins

theorem cell_addr {W : World} {a : Addr} {v : Value} (h : W.cell? a = some v) : a.spot = none ∧ a.block < W.heap.size := by
  refine ⟨?_, World.block_lt_of_cell? W a h⟩
  unfold World.cell? at h
  split at h
  · split at h
    · cases h
    · rename_i hn
      cases hs : a.spot with
      | none => rfl
      | some x => rw [hs] at hn; simp at hn
  · cases h

/-- A slice of backends, by its reading alone. -/
theorem open_bks_t {H : Type} {enc : TypeId × Value → H} {W : World} {spare : Nat → Bool} {held : Bool} {v : Value} {fuel : Nat} {y : DataW H × List MemPlace}
    (hf : DataW.trod enc Try.prog W 0 spare held fuel 31 [v] = some y) :
    ∃ (a : Option Addr) (len cap : Nat) (xs : List Bk), v = .slice a len cap ∧ Rd 2 bkc W a len xs ∧ Wf xs := by
  rcases open_slice_pairs Try.underlying31 Try.underlying56 (by kernel_rfl) rfl rfl (by kernel_rfl) (by kernel_rfl) hf with ⟨hcs, _⟩ | ⟨a, len, cap, m, n, V0, V1, D0, D1, P0, P1, hcs, _, hl, hm, hmm, _, hx⟩
  · simp at hcs
    exact ⟨none, 0, 0, [], hcs, Rd.nil _, (fun j x h => by simp at h)⟩
  · simp at hcs
    have hlm : len ≤ m := by rw [hmm]; split <;> omega
    have hall : ∀ i, i < len → ∃ x : Bk, V0 i = .int .i64 x.1 ∧ V1 i = .int .i64 x.2 ∧ I64 x.1 ∧ I64 x.2 := by
      intro i hi
      obtain ⟨_, _, h3, h4⟩ := hx i (by omega)
      obtain ⟨x, e0, _, w0⟩ := DataW.trod_int Try.underlying3 h3
      obtain ⟨y, e1, _, w1⟩ := DataW.trod_int Try.underlying3 h4
      simp at e0 e1
      exact ⟨(x, y), e0, e1, i64_of w0, i64_of w1⟩
    obtain ⟨q, hq⟩ := choose_lt hall
    refine ⟨some a, len, cap, (List.range len).map q, hcs, ⟨by simp, by omega, fun h => (by cases h), fun p' hp h0 => ?_⟩, fun j x hj => ?_⟩
    · cases hp
      have hc0 := (hx 0 (by omega)).1
      rw [Nat.zero_mul] at hc0
      obtain ⟨hs, hb⟩ := cell_addr (a := a) (by simpa [Addr.add] using hc0)
      refine ⟨hs, hb, fun j x hj i u hu => ?_⟩
      rw [List.getElem?_map] at hj
      have hjl : j < len := by
        by_cases hjl : j < len
        · exact hjl
        · rw [List.getElem?_eq_none (by simp; omega)] at hj; cases hj
      rw [List.getElem?_range hjl] at hj
      simp at hj; subst hj
      obtain ⟨h1, h2, _, _⟩ := hx j (by omega)
      obtain ⟨e0, e1, _, _⟩ := hq j hjl
      rw [e0, add_none a hs] at h1
      rw [e1, add_none a hs] at h2
      match i with
      | 0 => simp [bkc] at hu; subst hu; simpa using h1
      | 1 => simp [bkc] at hu; subst hu; simpa [Nat.add_assoc] using h2
      | i + 2 => simp [bkc] at hu
    · rw [List.getElem?_map] at hj
      have hjl : j < len := by
        by_cases hjl : j < len
        · exact hjl
        · rw [List.getElem?_eq_none (by simp; omega)] at hj; cases hj
      rw [List.getElem?_range hjl] at hj
      simp at hj; subst hj
      exact (hq j hjl).2.2

theorem open_acts {H : Type} {enc : TypeId × Value → H} {W : World} {r : Reach} {b0 : Nat} {spare : Nat → Bool} {held : Bool} {v : Value} {d : DataW H} {p : List MemPlace}
    (hv : Value.okWide Try.prog W r b0 22 v) (h : DataW.Trod enc Try.prog W 0 spare held 22 v d p) :
    ∃ (a : Option Addr) (len cap : Nat) (l : List Ac), v = .slice a len cap ∧ Rd 3 actc W a len l ∧ AcR W l := by
  obtain ⟨a0, len0, cap0, rfl⟩ := okWide_slice Try.underlying22 hv
  obtain ⟨fuel, hf⟩ := h
  have ce : Try.prog.cellsOf 33 = 3 := by kernel_rfl
  rcases open_slice Try.underlying22 hf with ⟨hcs, _⟩ | ⟨a, len, cap, m, n, D, Pl, hcs, _, hl, hm, hmm, _, hx⟩
  · simp [Value.cells] at hcs
    obtain ⟨rfl, rfl, rfl⟩ := hcs
    exact ⟨none, 0, 0, [], rfl, Rd.nil _, (fun j x h => by simp at h)⟩
  · simp [Value.cells] at hcs
    obtain ⟨rfl, rfl, rfl⟩ := hcs
    have hlm : len0 ≤ m := by rw [hmm]; split <;> omega
    have hall : ∀ i, i < len0 → ∃ x : Ac, W.cell? (a.add (i * 3)) = some (.int .i64 x.K) ∧ W.cell? (a.add (i * 3 + 1)) = some (.int .i64 x.I) ∧ W.cell? (a.add (i * 3 + 2)) = some (.slice x.a x.n x.cap) ∧ Rd 2 bkc W x.a x.n x.xs ∧ Wf x.xs := by
      intro i hi
      obtain ⟨cs', h1, h2⟩ := hx i (by omega)
      rw [ce] at h1
      obtain ⟨_, hlen, hcell⟩ := World.cells?_some h1
      obtain ⟨y0, y1, y2, k, _, _, g0, g1, g2⟩ := trod_struct3 Try.underlying33 h2
      match cs', hlen with
      | [v0, v1, v2], _ =>
        have c0 := hcell 0 (by omega)
        have c1 := hcell 1 (by omega)
        have c2 := hcell 2 (by omega)
        rw [add_add] at c0 c1 c2
        have g0' : DataW.trod enc Try.prog W 0 spare held k 3 [v0] = some y0 := g0
        have g1' : DataW.trod enc Try.prog W 0 spare held k 3 [v1] = some y1 := g1
        have g2' : DataW.trod enc Try.prog W 0 spare held k 31 [v2] = some y2 := g2
        obtain ⟨x0, e0, _, _⟩ := DataW.trod_int Try.underlying3 g0'
        obtain ⟨x1, e1, _, _⟩ := DataW.trod_int Try.underlying3 g1'
        obtain ⟨a2, l2, q2, xs2, e2, r2, w2⟩ := open_bks_t g2'
        simp at e0 e1
        subst e0 e1 e2
        exact ⟨⟨x0, x1, a2, l2, q2, xs2⟩, by simpa using c0, by simpa using c1, by simpa using c2, r2, w2⟩
    obtain ⟨q, hq⟩ := choose_lt hall
    refine ⟨some a, len0, cap0, (List.range len0).map q, rfl, ⟨by simp, by omega, fun h => (by cases h), fun p' hp h0 => ?_⟩, fun j x hj => ?_⟩
    · cases hp
      have hc0 := (hq 0 (by omega)).1
      rw [Nat.zero_mul] at hc0
      obtain ⟨hs, hb⟩ := cell_addr (a := a) (by simpa [Addr.add] using hc0)
      refine ⟨hs, hb, fun j x hj i u hu => ?_⟩
      rw [List.getElem?_map] at hj
      have hjl : j < len0 := by
        by_cases hjl : j < len0
        · exact hjl
        · rw [List.getElem?_eq_none (by simp; omega)] at hj; cases hj
      rw [List.getElem?_range hjl] at hj
      simp at hj; subst hj
      obtain ⟨h1, h2, h3, _, _⟩ := hq j hjl
      rw [add_none a hs] at h1 h2 h3
      match i with
      | 0 => simp [actc] at hu; subst hu; simpa using h1
      | 1 => simp [actc] at hu; subst hu; simpa [Nat.add_assoc] using h2
      | 2 => simp [actc] at hu; subst hu; simpa [Nat.add_assoc] using h3
      | i + 3 => simp [actc] at hu
    · rw [List.getElem?_map] at hj
      have hjl : j < len0 := by
        by_cases hjl : j < len0
        · exact hjl
        · rw [List.getElem?_eq_none (by simp; omega)] at hj; cases hj
      rw [List.getElem?_range hjl] at hj
      simp at hj; subst hj
      exact (hq j hjl).2.2.2
end Go.Proofs.Ytiaifphidcfddaa
