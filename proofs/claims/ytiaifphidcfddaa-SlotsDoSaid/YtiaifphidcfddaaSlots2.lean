/-
  slots: New, Begin, Spoil.
-/
import Derived.Test.YtiaifphidcfddaaSlots
set_option linter.unusedVariables false
set_option linter.unusedSimpArgs false
namespace Go.Proofs.Ytiaifphidcfddaa
open Go.RowKit Go.Shelf

theorem Begin_calls (g h : Nat) (st : List Sl) (i : Int) (w : World) (k : SlAt w g h st) :
    Calls Try.prog 27 #[.pointer (some ⟨g, 0, none⟩), .int .i64 i] w fun e w' => e = .returned (.bool (isS st i)) ∧ SlAt w' g h (setS st i .building) ∧ w.grownBy w' (some h) := by
  cases hi : isS st i with
  | false =>
    have hcon := hide (put_no g h st i (.iface 92 (.agg #[])) w k hi)
    have K := hide k
    have HS := hide (show setS st i .building = st by unfold setS; rw [hi]; rfl)
    clear k hi
    go_enter Try.func27, Try.ntmps27
    go_wp2_with (go_at_call 59; refine hcon.out.mono ?_; rintro e w' ⟨rfl, rfl⟩)
    go_ret
    exact ⟨rfl, by rw [HS.out]; exact K.out, World.grownBy.refl _ _⟩
  | true =>
    obtain ⟨m, rfl, hm⟩ := isS_true hi
    have hcon := hide (put_yes g h st m .building (.iface 92 (.agg #[])) w k hm rfl rfl)
    have HS := hide (show setS st (m : Int) .building = st.set m .building by unfold setS; rw [hi]; simp)
    clear k hi hm
    go_enter Try.func27, Try.ntmps27
    go_wp2_with (go_at_call 59; refine hcon.out.mono ?_; rintro e w' ⟨rfl, hs, hg⟩; have H1 := hide hs; have H2 := hide hg; clear hs hg)
    go_ret
    exact ⟨rfl, by rw [HS.out]; exact H1.out, H2.out⟩

theorem Spoil_calls (g h : Nat) (st : List Sl) (i : Int) (w : World) (k : SlAt w g h st) :
    Calls Try.prog 30 #[.pointer (some ⟨g, 0, none⟩), .int .i64 i] w fun e w' => e = .returned (.bool (isS st i)) ∧ SlAt w' g h (setS st i .spoilt) ∧ w.grownBy w' (some h) := by
  cases hi : isS st i with
  | false =>
    have hcon := hide (put_no g h st i .nilIface w k hi)
    have K := hide k
    have HS := hide (show setS st i .spoilt = st by unfold setS; rw [hi]; rfl)
    clear k hi
    go_enter Try.func30, Try.ntmps30
    go_wp2_with (go_at_call 59; refine hcon.out.mono ?_; rintro e w' ⟨rfl, rfl⟩)
    go_ret
    exact ⟨rfl, by rw [HS.out]; exact K.out, World.grownBy.refl _ _⟩
  | true =>
    obtain ⟨m, rfl, hm⟩ := isS_true hi
    have hcon := hide (put_yes g h st m .spoilt .nilIface w k hm rfl rfl)
    have HS := hide (show setS st (m : Int) .spoilt = st.set m .spoilt by unfold setS; rw [hi]; simp)
    clear k hi hm
    go_enter Try.func30, Try.ntmps30
    go_wp2_with (go_at_call 59; refine hcon.out.mono ?_; rintro e w' ⟨rfl, hs, hg⟩; have H1 := hide hs; have H2 := hide hg; clear hs hg)
    go_ret
    exact ⟨rfl, by rw [HS.out]; exact H1.out, H2.out⟩

/-! ### New -/
def clS (n : Int) : Nat := (max 0 (min n 8)).toNat
def newS (n : Int) : List Sl := List.replicate (clS n) .spoilt

theorem madeNil (m : Nat) : (madeCells (Value.nilIface).cells m).size = m ∧ ∀ j, j < m → (madeCells (Value.nilIface).cells m)[j]? = some .nilIface := by
  refine ⟨by simp [madeCells], fun j hj => ?_⟩
  simp [madeCells, Value.cells, hj]
  rw [Nat.mod_one]; rfl

set_option maxRecDepth 100000 in
theorem makeSlots (k : Int) (m : Nat) (hk : k = (m : Int)) (hm : m ≤ 8) (w : World) : (Instr.makeSlice 70 (.int .i64 k) (.int .i64 k)).run Try.prog w = .ok (.slice (some ⟨w.heap.size, 0, none⟩) m m) (w.alloc (.cells (madeCells (Value.nilIface).cells m) 95)) := by
  subst hk
  obtain ⟨i, hi, hz, hsz, hb⟩ := info_parts (show (Try.prog.info? 95).map (fun i => (i.zero, i.size, i.bytes)) = some (some .nilIface, 1, 16) by kernel_rfl)
  have := run_makeSlice (P := Try.prog) (w := w) 70 95 i .nilIface Try.underlying70 hi hz .i64 .i64 (m : Int) (m : Int) (by omega) (by omega) (by rw [hsz]; simp; omega) (by rw [hb]; omega) (by omega)
  rw [this]
  rw [Int.toNat_natCast, hsz, Nat.mul_one]

theorem SlAt_new (w : World) (m : Nat) (hm : m ≤ 8) : SlAt ((w.alloc (.cells (madeCells (Value.nilIface).cells m) 95)).alloc (.cells #[.slice (some ⟨w.heap.size, 0, none⟩) m m] 72)) (w.heap.size + 1) w.heap.size (List.replicate m .spoilt) := by
  have h1 := World.alloc_heap_new (w.alloc (.cells (madeCells (Value.nilIface).cells m) 95)) (.cells #[.slice (some ⟨w.heap.size, 0, none⟩) m m] 72)
  rw [World.size_alloc] at h1
  refine ⟨by rw [List.length_replicate]; exact h1, by omega, by rw [List.length_replicate]; exact hm, _, (Below.heap_alloc _ _ _ (by simp)).trans (World.alloc_heap_new w _), by rw [List.length_replicate]; exact (madeNil m).1, fun i s hi => ?_⟩
  rw [List.getElem?_replicate] at hi
  split at hi
  · cases hi
    exact ⟨.nilIface, (madeNil m).2 i ‹_›, rfl, rfl⟩
  · cases hi

set_option maxRecDepth 100000 in
set_option maxHeartbeats 1000000 in
theorem New_calls (n : Int) (w : World) : Calls Try.prog 16 #[.int .i64 n] w fun e w' => e = .returned (.pointer (some ⟨w.heap.size + 1, 0, none⟩)) ∧ SlAt w' (w.heap.size + 1) w.heap.size (newS n) ∧ Below w.heap.size w w' := by
  obtain ⟨m, hcl⟩ : ∃ m, clS n = m := ⟨_, rfl⟩
  have hm : m ≤ 8 := by unfold clS at hcl; omega
  have hk : max 0 (min n 8) = (m : Int) := by unfold clS at hcl; omega
  have HF := hide (show SlAt _ (w.heap.size + 1) w.heap.size (newS n) by unfold newS; rw [hcl]; exact SlAt_new w m hm)
  have HB := hide (show Below w.heap.size w ((w.alloc (.cells (madeCells (Value.nilIface).cells m) 95)).alloc (.cells #[.slice (some ⟨w.heap.size, 0, none⟩) m m] 72)) from ((Below.refl _ _).alloc (Nat.le_refl _) _).alloc (by simp) _)
  have hmk := makeSlots (max 0 (min n 8)) m hk hm
  clear hcl hk hm
  generalize madeCells (Value.nilIface).cells m = r at hmk HF HB
  go_enter Try.func16, Try.ntmps16
  go_wp2
  go_ret
  exact ⟨rfl, HF.out, HB.out⟩
end Go.Proofs.Ytiaifphidcfddaa
