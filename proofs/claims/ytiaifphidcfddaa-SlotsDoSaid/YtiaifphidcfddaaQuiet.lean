/-
  A region that draws its order, reads, and calls functions that only lay blocks of their own: walked once, in the order of the text.
-/
import Derived.Test.YtiaifphidcfddaaMem
import Derived.BigQuiet
set_option linter.unusedVariables false
set_option linter.unusedSimpArgs false
namespace Go.Proofs.Ytiaifphidcfddaa
open Go.RowKit

/-- A world that is w with blocks laid behind it. -/
structure BlwOf (w : World) where
  v : World
  h : Below w.heap.size w v
instance (w : World) : Inhabited (BlwOf w) := ⟨⟨w, Below.refl _ _⟩⟩

theorem wp_region_blw {P : Program} {id : Nat} {Q : Exit → Act → World → Prop} {a : Act} {w : World} {l : List Oper} (hm : P.follows .mixedOrders = true) (hB : Region.lexB .any l.toArray = true)
    (h : wpQuiet P l.toArray (fun w' => ∃ p : BlwOf w, w' = p.v) (fun a' => ∀ w', (∃ p : BlwOf w, w' = p.v) → Q .normal a' w') l a) : (Code.region id l.toArray true).wp P Q a w :=
  wp_region_quiet (C := fun w' => ∃ p : BlwOf w, w' = p.v) hm hB ⟨⟨w.drew, (Below.refl _ _).drew⟩, rfl⟩ (by simpa using h)

theorem blw {P : Program} {f : FuncId} {args : Array Value} {w : World} {p : BlwOf w} {v : Value}
    (h : Calls P f args p.v fun e w' => e = .returned v ∧ Below p.v.heap.size p.v w') : Calls P f args p.v fun e w'' => e = .returned v ∧ ∃ q : BlwOf w, w'' = q.v :=
  h.mono fun _ w' ⟨he, hb⟩ => ⟨he, ⟨w', below_then p.h p.h.size hb⟩, rfl⟩
theorem blw0 {P : Program} {f : FuncId} {args : Array Value} {w : World} {p : BlwOf w} {v : Value}
    (h : Calls P f args p.v fun e w' => e = .returned v ∧ w' = p.v) : Calls P f args p.v fun e w'' => e = .returned v ∧ ∃ q : BlwOf w, w'' = q.v :=
  h.mono fun _ w' ⟨he, hb⟩ => ⟨he, p, hb⟩
theorem blw_out {w w' : World} (h : ∃ p : BlwOf w, w' = p.v) : Below w.heap.size w w' := by obtain ⟨p, rfl⟩ := h; exact p.h
theorem blw_cell {w : World} {a : Addr} {v : Value} (h : w.cell? a = some v) (p : BlwOf w) : p.v.cell? a = some v :=
  (World.cell?_of_block (p.h.block _ (World.block_lt_of_cell? w a h))).trans h
end Go.Proofs.Ytiaifphidcfddaa
