/-
  Opening a row's arguments: a slice of backends, a backend, a number.
-/
import Derived.Test.YtiaifphidcfddaaPool2
import Derived.ProofKit
import Derived.OpenShut
import Derived.Deep.SlicePairs
import Derived.Lib.SmallJoins
import Derived.ChangeOld
import Derived.Carry
set_option linter.unusedVariables false
set_option linter.unusedSimpArgs false
set_option maxRecDepth 100000
namespace Go.Proofs.Ytiaifphidcfddaa
open Go.RowKit Go.ChangeShapes Go.WideShapes Go.Deep Go.Joins

theorem i64_of {n : Int} (h : (Lit.int .i64 n).wf = true) : I64 n := by
  simp [Lit.wf, IntKind.min, IntKind.max, IntKind.signed, IntKind.bits] at h
  unfold I64; omega

theorem open_bk {H : Type} {enc : TypeId × Value → H} {W : World} {r : Reach} {b0 : Nat} {spare : Nat → Bool} {held : Bool} {v : Value} {d : DataW H} {p : List MemPlace}
    (hv : Value.okWide Try.prog W r b0 56 v) (h : DataW.Trod enc Try.prog W 0 spare held 56 v d p) :
    ∃ x : Bk, v = .agg #[.int .i64 x.1, .int .i64 x.2] ∧ I64 x.1 ∧ I64 x.2 := by
  obtain ⟨c0, c1, y0, y1, m, rfl, rfl, rfl, hy0, hy1⟩ := open_agg2 Try.underlying56 (by kernel_rfl) (by kernel_rfl) hv h
  obtain ⟨a, e0, _, wa⟩ := DataW.trod_int Try.underlying3 hy0
  obtain ⟨b, e1, _, wb⟩ := DataW.trod_int Try.underlying3 hy1
  simp at e0 e1
  subst e0 e1
  exact ⟨(a, b), rfl, i64_of wa, i64_of wb⟩

theorem has_spot {W : World} {r : Reach} {b0 : Nat} {e : TypeId} {t : TypeId} {a : Addr} {len cap : Nat} (ht : Try.prog.underlying t = some (.slice e)) (hv : Value.okWide Try.prog W r b0 t (.slice (some a) len cap)) :
    a.spot = none ∧ a.block < W.heap.size ∧ len ≤ cap := by
  simp only [Value.okWide, ht, Cell.okWide, Cell.ok] at hv
  obtain ⟨h1, _, _, hs, row, cells, hsh, _⟩ := hv
  refine ⟨hs, ?_, h1⟩
  unfold World.shape? at hsh
  split at hsh
  · rename_i c el fr hh
    exact (Array.getElem?_eq_some_iff.1 hh).1
  · cases hsh

theorem add_none (a : Addr) (hs : a.spot = none) (n : Nat) : a.add n = ⟨a.block, a.off + n, none⟩ := by
  obtain ⟨b, o, s⟩ := a
  simp only at hs; subst hs
  unfold Addr.add; split <;> simp_all

theorem open_bks {H : Type} {enc : TypeId × Value → H} {W : World} {r : Reach} {b0 : Nat} {spare : Nat → Bool} {held : Bool} {v : Value} {d : DataW H} {p : List MemPlace}
    (hv : Value.okWide Try.prog W r b0 31 v) (h : DataW.Trod enc Try.prog W 0 spare held 31 v d p) :
    ∃ (a : Option Addr) (len cap : Nat) (xs : List Bk), v = .slice a len cap ∧ Rd 2 bkc W a len xs ∧ Wf xs ∧ (a = none → cap = 0) := by
  obtain ⟨a0, len0, cap0, rfl⟩ := okWide_slice Try.underlying31 hv
  obtain ⟨fuel, hf⟩ := h
  rcases open_slice_pairs Try.underlying31 Try.underlying56 (by kernel_rfl) rfl rfl (by kernel_rfl) (by kernel_rfl) hf with ⟨hcs, _⟩ | ⟨a, len, cap, m, n, V0, V1, D0, D1, P0, P1, hcs, _, hl, hm, hmm, _, hx⟩
  · simp [Value.cells] at hcs
    obtain ⟨rfl, rfl, rfl⟩ := hcs
    exact ⟨none, 0, 0, [], rfl, Rd.nil _, (fun j x h => by simp at h), fun _ => rfl⟩
  · simp [Value.cells] at hcs
    obtain ⟨rfl, rfl, rfl⟩ := hcs
    obtain ⟨hs, hb, _⟩ := has_spot Try.underlying31 hv
    have hlm : len0 ≤ m := by rw [hmm]; split <;> omega
    have hall : ∀ i, i < len0 → ∃ x : Bk, V0 i = .int .i64 x.1 ∧ V1 i = .int .i64 x.2 ∧ I64 x.1 ∧ I64 x.2 := by
      intro i hi
      obtain ⟨_, _, h3, h4⟩ := hx i (by omega)
      obtain ⟨x, e0, _, w0⟩ := DataW.trod_int Try.underlying3 h3
      obtain ⟨y, e1, _, w1⟩ := DataW.trod_int Try.underlying3 h4
      simp at e0 e1
      exact ⟨(x, y), e0, e1, i64_of w0, i64_of w1⟩
    obtain ⟨q, hq⟩ := choose_lt hall
    refine ⟨some a, len0, cap0, (List.range len0).map q, rfl, ⟨by simp, by omega, fun h => (by cases h), fun p' hp _ => ?_⟩, fun j x hj => ?_, fun h => (by cases h)⟩
    · cases hp
      refine ⟨hs, hb, fun j x hj i u hu => ?_⟩
      rw [List.getElem?_map] at hj
      have hjl : j < len0 := by
        by_cases hjl : j < len0
        · exact hjl
        · rw [List.getElem?_eq_none (by simp; omega)] at hj; cases hj
      rw [List.getElem?_range hjl] at hj
      simp at hj; subst hj
      obtain ⟨h1, h2, _, _⟩ := hx j (by omega)
      obtain ⟨e0, e1, _, _⟩ := hq j hjl
      rw [e0, add_none a hs] at h1
      rw [e1, add_none a hs] at h2
      match i with
      | 0 => simp [bkc] at hu; subst hu; simpa using h1
      | 1 => simp [bkc] at hu; subst hu; simpa [Nat.add_assoc] using h2
      | i + 2 => simp [bkc] at hu
    · rw [List.getElem?_map] at hj
      have hjl : j < len0 := by
        by_cases hjl : j < len0
        · exact hjl
        · rw [List.getElem?_eq_none (by simp; omega)] at hj; cases hj
      rw [List.getElem?_range hjl] at hj
      simp at hj; subst hj
      exact (hq j hjl).2.2
end Go.Proofs.Ytiaifphidcfddaa
