/-
  slices.SortFunc at points.place, by place.order: at a row of the call's own, out of the shelf's contract.
-/
import Derived.Test.YtiaifphidcfddaaShelfSortP
import Derived.Test.YtiaifphidcfddaaSucc
set_option linter.unusedVariables false
set_option linter.unusedSimpArgs false
namespace Go.Proofs.Ytiaifphidcfddaa
open Go.RowKit Go.Shelf Go.Sort

section
variable {α : Type} [Inhabited α]
theorem flatK_toList (enc : α → List Value) (k : Nat) (hk : ∀ x, (enc x).length = k) (d : List α) : (flatK enc k d.toArray).toList = d.flatMap enc := by
  apply List.ext_getElem?
  intro t
  by_cases ht : t < d.length * k
  · have hk0 : 0 < k := by rcases Nat.eq_zero_or_pos k with h | h; · subst h; simp at ht
                           · exact h
    have hq : t / k < d.length := by rw [Nat.div_lt_iff_lt_mul hk0]; exact ht
    have hg := get_flatK enc k d.toArray t (by simpa using ht)
    have hlt : t < (flatK enc k d.toArray).size := by simpa using ht
    rw [getElem!_pos _ t hlt] at hg
    rw [Array.getElem?_toList, Array.getElem?_eq_getElem hlt, hg]
    have h2 := flatMap_get hk d (t / k) (t % k) d[t / k] (List.getElem?_eq_getElem hq) (Nat.mod_lt _ hk0)
    rw [Nat.div_add_mod'] at h2
    have h3 : t % k < (enc d[t / k]).length := by rw [hk]; exact Nat.mod_lt _ hk0
    rw [h2, List.getElem?_eq_getElem h3]
    have e1 : d.toArray[t / k]! = d[t / k] := by rw [getElem!_pos _ _ (by simpa using hq)]; simp
    rw [e1, getElem!_pos (enc d[t / k]) (t % k) h3]
  · rw [List.getElem?_eq_none (by simp; omega), List.getElem?_eq_none (by rw [flatMap_len hk]; omega)]

theorem holdsK_own (enc : α → List Value) (k : Nat) (hk : ∀ x, (enc x).length = k) {w : World} {g : Nat} {cur : Array Value} {e : TypeId} {xs : List α} (hb : w.heap[g]? = some (.cells cur e (0, 0))) (ht : cur.toList.take (xs.length * k) = xs.flatMap enc) : HoldsK enc k w g 0 xs.toArray := by
  intro j hj
  have hj' : j < xs.length * k := by simpa using hj
  refine ⟨?_, by simp [World.frozen?, hb]⟩
  have h1 : (cur.toList.take (xs.length * k))[j]? = (flatK enc k xs.toArray).toList[j]? := by rw [ht, flatK_toList enc k hk]
  rw [List.getElem?_take_of_lt hj'] at h1
  simp only [World.cell?, hb, Nat.zero_add]
  simp only [Option.isSome_none, Bool.false_eq_true, if_false]
  rw [← Array.getElem?_toList, h1, Array.getElem?_toList, Array.getElem?_eq_getElem hj, getElem!_pos (flatK enc k xs.toArray) j hj]
  rfl

theorem heap_sortedK (enc : α → List Value) (k : Nat) {w : World} {g n : Nat} {os : Array Obj} {cur : Array Value} {e : TypeId} {fr : Nat × Nat} (d : Array α) (hb : w.heap[g]? = some (.cells cur e fr)) :
    (sortWorldK enc k w g 0 n d os).heap[g]? = some (.cells (putCells id 0 (flatK enc k d) cur) e fr) := by
  have hg : g < w.heap.size := (Array.getElem?_eq_some_iff.1 hb).1
  unfold sortWorldK
  rw [heap_grow_old _ _ (by simpa [putRowK] using hg)]
  simp [putRowK, putRow, mapBlock, Sort.ahead, Array.getElem?_modify, hb, onCells]
theorem grownBy_sortedK (enc : α → List Value) (k : Nat) {w : World} {g n : Nat} {os : Array Obj} (d : Array α) : w.grownBy (sortWorldK enc k w g 0 n d os) (some g) := by
  unfold sortWorldK
  refine ⟨rfl, rfl, rfl, by simp [putRowK], fun j hj hne => ?_⟩
  rw [heap_grow_old _ _ (by simpa [putRowK] using hj)]
  have : g ≠ j := fun e => hne (by rw [e])
  simp [putRowK, putRow, mapBlock, Sort.ahead, Array.getElem?_modify, this]
theorem take_putCellsK (cur : Array Value) (F : Array Value) (h : F.size ≤ cur.size) : (putCells id 0 F cur).toList.take F.size = F.toList := by
  apply List.ext_getElem?
  intro j
  by_cases hj : j < F.size
  · rw [List.getElem?_take_of_lt hj, Array.getElem?_toList]
    simp [putCells, hj, show j < cur.size by omega]
  · rw [List.getElem?_take_eq_none (by omega), List.getElem?_eq_none (by simp; omega)]
theorem ow_sortedK (enc : α → List Value) (k : Nat) (hk : ∀ x, (enc x).length = k) {w : World} {base g cap n m : Nat} {e : TypeId} {os : Array Obj} {cur : Array Value} {ts : List α} (hl : ts.length = m) (hbase : base ≤ g) (hb : w.heap[g]? = some (.cells cur e (0, 0)))
    (h1 : m ≤ cap) (h2 : cap ≤ maxLen) (h3 : cur.size = cap * k) :
    Ow k enc e base (sortWorldK enc k w g 0 n ts.toArray os) (.slice (some ⟨g, 0, none⟩) m cap) ts := by
  have hs : (flatK enc k ts.toArray).size = ts.length * k := by simp
  refine ⟨flatMap_len hk ts, .inr ⟨g, cap, _, by rw [hl], hbase, heap_sortedK enc k _ hb, by omega, h2, by simp [putCells, h3], ?_⟩⟩
  rw [← flatK_toList enc k hk ts, ← hs]
  exact take_putCellsK cur _ (by rw [hs, h3]; exact Nat.mul_le_mul_right k (by omega))
end

theorem ordP_ltOf : ltOf ordP = ltP := by
  funext x y
  exact ordP_lt x y
theorem ordP_swo : SWO (ltOf ordP) where
  irrefl x := by rw [ordP_ltOf, ← Bool.not_eq_true, ltP_iff]; omega
  trans x y z h1 h2 := by rw [ordP_ltOf, ltP_iff] at *; omega
  ntrans x y z h1 h2 := by rw [ordP_ltOf, ← Bool.not_eq_true, ltP_iff] at *; omega

theorem isAgg_pl (w : World) : (isAgg 118).run Try.prog w = .ok true w := by kernel_rfl
theorem sizeOf_pl (w : World) : (Go.sizeOf 118).run Try.prog w = .ok 2 w := by kernel_rfl

theorem PSort_calls (v : Value) (xs : List Pt) (base : Nat) (w : World) (ho : Ow 2 ptc 118 base w v xs) (hl : xs.length < 4611686018427387904) :
    Calls Try.prog 95 #[v, .func (.func 81) #[] #[]] w fun e w' => e = .returned (.tuple #[]) ∧ Ow 2 ptc 118 base w' v (srt xs) ∧ w.grownBy w' v.ownBlock := by
  have eg : ∀ args w, (callFunc 81 args).run Try.prog w = .ok (.enter 81 args) w := enters_of Try.func81 (by kernel_rfl) rfl
  rcases ho.2 with ⟨rfl, h0⟩ | ⟨g, cap, cur, rfl, hb, hg, hnc, hcm, hcs, ht⟩
  · have : xs = [] := List.eq_nil_of_length_eq_zero h0
    subst this
    refine (AnyF.slices_SortFunc_none Try.sortP none 0 (.func (.func 81) #[] #[]) w).mono ?_
    rintro e w' ⟨rfl, rfl⟩
    exact ⟨rfl, by simpa [srt] using ho, World.grownBy.refl _ _⟩
  · have hH := holdsK_own ptc 2 ptc_len hg ht
    have hcon := AnyQ.slices_SortFunc_total Try.sortP 2 isAgg_pl sizeOf_pl ptc ptc_len ptc_one ordP ordP_swo 81 #[] g 0 cap xs.toArray w eg (fun m os dk hd x y => order_calls x y _) hH (Array.getElem?_eq_some_iff.1 hg).1 (by simpa using hl) (fun x y h1 h2 => by rw [ordP_ltOf] at h1 h2; exact ltP_tot x y h1 h2)
    refine Calls.mono hcon ?_
    rintro e w' ⟨rfl, n, os, rfl⟩
    have hle : (fun x y => !(ltOf ordP) y x) = leP := by rw [ordP_ltOf]; rfl
    rw [hle]
    refine ⟨rfl, ?_, grownBy_sortedK ptc 2 _⟩
    exact ow_sortedK ptc 2 ptc_len (srt_len xs) hb hg hnc hcm hcs
end Go.Proofs.Ytiaifphidcfddaa
