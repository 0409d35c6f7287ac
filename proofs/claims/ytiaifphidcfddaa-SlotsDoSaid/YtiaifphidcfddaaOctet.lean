/-
  octet: numbers as bytes.
-/
import Derived.Test.YtiaifphidcfddaaFnv
set_option linter.unusedVariables false
set_option linter.unusedSimpArgs false
namespace Go.Proofs.Ytiaifphidcfddaa
open Go.RowKit Go.Shelf

attribute [local go_sem] Oper.semAt_some

theorem lanes_calls (m : Nat) (w : World) : Calls Try.prog 141 #[.int .i64 (m : Int)] w fun e w' => e = .returned (.func (.func 149) #[] #[.pointer (some ⟨w.heap.size, 0, none⟩)]) ∧ w' = w.alloc (.cells #[.int .i64 (m : Int)] 3) := by
  go_enter Try.func141, Try.ntmps141
  go_wp2
  go_ret
  exact ⟨rfl, rfl⟩

set_option maxRecDepth 100000 in
set_option maxHeartbeats 2000000 in
theorem Lanes1_in (n : Nat) (hn : 1 ≤ n) (l Bs m : Nat) (hm : m ≤ 8) (J Jx : List Nat → World → Prop)
    (W : World) (hY : ∀ pre x W, J pre W → pre.length < m → x < m → YieldAt Fence.wide (n - 1) Try.prog l #[.int .i64 (x : Int), .int .u64 ((8 * (m - 1 - x) : Nat) : Int)] W fun e W' =>
      (e = .returned (.bool true) ∧ J (pre ++ [x]) W' ∧ SameAt Bs W W') ∨ (e = .returned (.bool false) ∧ Jx (pre ++ [x]) W'))
    (hBs : W.cell? ⟨Bs, 0, none⟩ = some (.int .i64 (m : Int))) (h0 : J [] W) :
    CallsIn Fence.wide n Try.prog 149 #[.func (.yield l) #[] #[], .pointer (some ⟨Bs, 0, none⟩)] W fun e W' => (∃ v, e = .returned v) ∧
      ((∃ ys, ys = List.range m ∧ J ys W') ∨ (∃ pre, True ∧ Jx pre W')) := by
  have HY := hide hY
  clear hY
  refine callsIn_of_wp Try.func149 rfl trivial ?_ rfl
  simp only [Try.ntmps149, List.size_toArray, List.length_cons, List.length_nil, Nat.reduceAdd, Nat.reduceSub, Array.replicate_succ, Array.replicate_zero, List.push_toArray, List.append_toArray, List.nil_append, List.cons_append]
  gi_wp2
  gi_loopw [5, 3] (fun i _ wr => ∃ k : Nat, k ≤ m ∧ i = .int .i64 k ∧ Hid (J (List.range k) wr) ∧ Hid (SameAt Bs W wr))
    (fun i _ _ => m - (intOf i).toNat)
  case atStart => exact ⟨0, Nat.zero_le _, rfl, (hide h0), (hide rfl)⟩
  case round =>
    obtain ⟨k, hk, rfl, HJs, hnx⟩ := hrel
    by_cases hlt : k < m
    · have hc := hnx.out.cell hBs
      have HYl := HY.out (List.range k) k wr HJs.out (by simpa using hlt) hlt
      obtain ⟨fn, tmps, assign, body, hy, hR⟩ := HYl
      have hltz : (k : Int) < (m : Int) := by omega
      obtain ⟨d, hd⟩ : ∃ d, d = m - 1 - k := ⟨_, rfl⟩
      rw [← hd] at hy
      have hd1 : (m : Int) - 1 - (k : Int) = (d : Int) := by omega
      have hd2 : d ≤ 7 := by omega
      have e8 : ((8 * d : Nat) : Int) = 8 * (d : Int) := by omega
      rw [e8] at hy
      clear hd e8
      gi_wp2
      refine hR.mono ?_
      rintro e W3 (⟨rfl, hJ3, hk3⟩ | ⟨rfl, hJx3⟩)
      · have HJ3 := hide hJ3
        have HW3 := hide (hnx.out.trans hk3)
        clear hJ3 hk3
        gi_wp2
        go_roundw
        case rel => exact ⟨k + 1, by omega, by simp, (hide (by rw [List.range_succ]; exact HJ3.out)), HW3⟩
        case measure => simp [intOf]; omega
      · have HJ3 := hide hJx3
        clear hJx3
        gi_wp2
        refine bodyPost_ret (results_none rfl _ _ _) rfl ?_
        exact ⟨⟨_, rfl⟩, .inr ⟨_, trivial, HJ3.out⟩⟩
    · obtain rfl : k = m := by omega
      have hc := hnx.out.cell hBs
      gi_wp2
      go_end0
      exact ⟨⟨_, rfl⟩, .inl ⟨_, rfl, HJs.out⟩⟩

theorem lanes_stops (n : Nat) (hn : 1 ≤ n) (Bs m : Nat) (hm : m ≤ 8) (w : World) (hBs : Bs < w.heap.size) (hc : w.cell? ⟨Bs, 0, none⟩ = some (.int .i64 (m : Int))) :
    SeqStopsK Fence.wide n Try.prog 149 #[.pointer (some ⟨Bs, 0, none⟩)] (fun x : Fin m => #[.int .i64 (x.1 : Int), .int .u64 ((8 * (m - 1 - x.1) : Nat) : Int)]) (SameAt Bs) (fun ys => ys.map (·.1) = List.range m) (fun _ => True) m w := fun l J Jx W hW _ _ hY h0 => by
  refine (Lanes1_in n hn l Bs m hm (fun l W => ∃ ys : List (Fin m), ys.map (·.1) = l ∧ J ys W) (fun l W => ∃ ys : List (Fin m), ys.map (·.1) = l ∧ Jx ys W) W (fun pre x W1 hJ hl hx => ?_) ((hW.cell (p := ⟨Bs, 0, none⟩) hBs).trans hc) ⟨[], rfl, h0⟩).mono ?_
  · obtain ⟨ys, rfl, hJ⟩ := hJ
    obtain ⟨fn, tmps, assign, body, hy, hR⟩ := hY ys ⟨x, hx⟩ W1 hJ (by simpa using hl)
    refine ⟨fn, tmps, assign, body, hy, hR.mono ?_⟩
    rintro e W2 (⟨h1, h2, h3⟩ | ⟨h1, h2⟩)
    · exact .inl ⟨h1, ⟨ys ++ [⟨x, hx⟩], by simp, h2⟩, h3⟩
    · exact .inr ⟨h1, ys ++ [⟨x, hx⟩], by simp, h2⟩
  · rintro e W2 ⟨h1, ⟨ys, rfl, zs, h2, h3⟩ | ⟨pre, _, zs, h2, h3⟩⟩
    · exact ⟨h1, .inl ⟨zs, h2, h3⟩⟩
    · exact ⟨h1, .inr ⟨zs, trivial, h3⟩⟩

/-- Byte number i of m of the number v, the greatest first. -/
def byteAt (v m i : Nat) : UInt8 := UInt8.ofNat (v / 2 ^ (8 * (m - 1 - i)) % 256)
def putS (v m : Nat) : ByteArray := ⟨((List.range m).map (byteAt v m)).toArray⟩
/-- The row when k bytes are in. -/
def rowAt (v m k : Nat) : Array Value := ((List.range m).map (fun i => Value.int .u8 (if i < k then ((byteAt v m i).toNat : Int) else 0))).toArray

theorem rowAt_size (v m k : Nat) : (rowAt v m k).size = m := by simp [rowAt]
theorem rowAt_set (v m k : Nat) (hk : k < m) : (rowAt v m k).setIfInBounds k (.int .u8 ((byteAt v m k).toNat : Int)) = rowAt v m (k + 1) := by
  apply Array.ext_getElem?
  intro i
  rw [Array.getElem?_setIfInBounds]
  simp only [rowAt, List.getElem?_toArray, List.getElem?_map, List.size_toArray, List.length_map, List.length_range]
  by_cases hi : i < m
  · rw [List.getElem?_range hi]
    by_cases e : k = i
    · subst e; simp [hk]
    · simp only [e, if_false, Option.map_some]
      by_cases h2 : i < k
      · simp [h2, Nat.lt_succ_of_lt h2]
      · have : ¬ i < k + 1 := by omega
        simp [h2, this]
  · rw [List.getElem?_eq_none (by simpa using hi)]
    have : k ≠ i := by omega
    simp [this]

theorem made_row (v m : Nat) : madeCells (Value.int .u8 0).cells m = rowAt v m 0 := by
  apply Array.ext
  · simp [madeCells, rowAt]
  · intro i h1 h2
    simp [madeCells, rowAt, Value.cells]
    rw [Nat.mod_one]; rfl

set_option maxRecDepth 100000 in
theorem makeBytes (v m : Nat) (hm : m ≤ 8) (w : World) : (Instr.makeSlice 166 (.int .i64 (m : Int)) (.int .i64 (m : Int))).run Try.prog w = .ok (.slice (some ⟨w.heap.size, 0, none⟩) m m) (w.alloc (.cells (rowAt v m 0) 5)) := by
  obtain ⟨i, hi, hz, hsz, hb⟩ := info_parts (show (Try.prog.info? 5).map (fun i => (i.zero, i.size, i.bytes)) = some (some (.int .u8 0), 1, 1) by kernel_rfl)
  have := run_makeSlice (P := Try.prog) (w := w) 166 5 i (.int .u8 0) Try.underlying166 hi hz .i64 .i64 (m : Int) (m : Int) (by omega) (by omega) (by rw [hsz]; simp; omega) (by rw [hb]; omega) (by omega)
  rw [this]
  rw [Int.toNat_natCast, hsz, Nat.mul_one, made_row v m]

/-- The row of bytes when those of pre are in. -/
def RowIs (W : World) (B v m : Nat) (pre : List Nat) : Prop := ∃ cur, W.heap[B]? = some (.cells cur 5 (0, 0)) ∧ cur.size = m ∧ (pre = List.range pre.length → cur = rowAt v m pre.length)
theorem rowIs_own {m : Nat} (B v m' : Nat) : Own (fun (pre : List (Fin m)) W => RowIs W B v m' (pre.map (·.1))) := fun s X Y row hs hg hrow => by
  obtain ⟨cur, h1, h2⟩ := hs
  refine ⟨cur, (hg.block B (Array.getElem?_eq_some_iff.1 h1).1 (fun e => ?_)).trans h1, h2⟩
  obtain ⟨o, ho, hc⟩ := hrow B e.symm
  rw [h1] at ho; cases ho; cases hc

set_option maxRecDepth 100000 in
set_option maxHeartbeats 4000000 in
theorem Put_calls (v m : Nat) (hv : v < 18446744073709551616) (hm1 : 1 ≤ m) (hm : m ≤ 8) (w : World) :
    Calls Try.prog 120 #[.int .u64 (v : Int), .int .i64 (m : Int)] w fun e w' => e = .returned (.string (putS v m)) ∧ Below w.heap.size w w' := by
  have hf1 : Fence.wide.fn 141 := trivial
  have h1z : ¬ (m : Int) < 1 := by omega
  have h2z : ¬ (8 : Int) < (m : Int) := by omega
  have hmk := makeBytes v m hm
  refine callsIn_wide (n := 5).1 ?_
  refine callsIn_of_wp_marks Try.func120 rfl trivial ?_ rfl
  simp only [Try.ntmps120, List.size_toArray, List.length_cons, List.length_nil, Nat.reduceAdd, Nat.reduceSub, Array.replicate_succ, Array.replicate_zero, List.push_toArray, List.append_toArray, List.nil_append, List.cons_append]
  gi_wp2_with (gi_at_call 141; refine (callsIn_wide.2 (lanes_calls _ _)).mono ?_; rintro e w' ⟨rfl, rfl⟩)
  have hB0 : Below w.heap.size w ((((w.alloc (.cells #[.int .u64 (v : Int)] 23)).alloc (.cells (rowAt v m 0) 5)).alloc (.cells #[.slice (some ⟨w.heap.size + 1, 0, none⟩) m m] 166)).alloc (.cells #[.int .i64 (m : Int)] 3)) := ((((Below.refl _ w).alloc (Nat.le_refl _) _).alloc (by simp) _).alloc (by simp; omega) _).alloc (by simp; omega) _
  have b2 := (((Boxed.new w 23 (.int .u64 (v : Int))).alloc (.cells (rowAt v m 0) 5)).alloc (.cells #[.slice (some ⟨w.heap.size + 1, 0, none⟩) m m] 166)).alloc (.cells #[.int .i64 (m : Int)] 3)
  have b5 := (Boxed.new ((w.alloc (.cells #[.int .u64 (v : Int)] 23)).alloc (.cells (rowAt v m 0) 5)) 166 (.slice (some ⟨w.heap.size + 1, 0, none⟩) m m)).alloc (.cells #[.int .i64 (m : Int)] 3)
  have bS := Boxed.new (((w.alloc (.cells #[.int .u64 (v : Int)] 23)).alloc (.cells (rowAt v m 0) 5)).alloc (.cells #[.slice (some ⟨w.heap.size + 1, 0, none⟩) m m] 166)) 3 (.int .i64 (m : Int))
  have bR : ((((w.alloc (.cells #[.int .u64 (v : Int)] 23)).alloc (.cells (rowAt v m 0) 5)).alloc (.cells #[.slice (some ⟨w.heap.size + 1, 0, none⟩) m m] 166)).alloc (.cells #[.int .i64 (m : Int)] 3)).heap[w.heap.size + 1]? = some (.cells (rowAt v m 0) 5 (0, 0)) := by
    rw [Below.heap_alloc _ _ _ (by simp), Below.heap_alloc _ _ _ (by simp)]
    have := World.alloc_heap_new (w.alloc (.cells #[.int .u64 (v : Int)] 23)) (.cells (rowAt v m 0) 5)
    rwa [World.size_alloc] at this
  simp only [World.size_alloc] at b5 bS
  have hsz : ((((w.alloc (.cells #[.int .u64 (v : Int)] 23)).alloc (.cells (rowAt v m 0) 5)).alloc (.cells #[.slice (some ⟨w.heap.size + 1, 0, none⟩) m m] 166)).alloc (.cells #[.int .i64 (m : Int)] 3)).heap.size = w.heap.size + 4 := by simp
  obtain ⟨W0, hW0⟩ : ∃ W0, (((w.alloc (.cells #[.int .u64 (v : Int)] 23)).alloc (.cells (rowAt v m 0) 5)).alloc (.cells #[.slice (some ⟨w.heap.size + 1, 0, none⟩) m m] 166)).alloc (.cells #[.int .i64 (m : Int)] 3) = W0 := ⟨_, rfl⟩
  rw [hW0] at b2 b5 bS bR hB0 hsz
  rw [hW0]
  clear hW0 hmk
  refine wpIn_rangeFunc_ownG rfl (by omega) (gf := 149) (lb := #[.pointer (some ⟨w.heap.size + 1 + 1 + 1, 0, none⟩)]) rfl trivial (enters_of Try.func149 (by kernel_rfl) rfl)
    (lanes_stops 4 (by omega) (w.heap.size + 1 + 1 + 1) m hm W0 (by omega) bS.cell) sameK_t (sameK_b (by omega)) (Below.refl _ _) (fun _ => rfl)
    (fun (pre : List (Fin m)) W => (RowIs W (w.heap.size + 1) v m (pre.map (·.1)) ∧ (Boxed W (w.heap.size + 1 + 1) 166 (.slice (some ⟨w.heap.size + 1, 0, none⟩) m m) ∧ Boxed W w.heap.size 23 (.int .u64 (v : Int)))) ∧ Below w.heap.size w W)
    (fun _ _ _ => False)
    (OwnFrom.and (OwnFrom.and (Own.from (rowIs_own _ _ _) _) (OwnFrom.and (Own.from (boxed_own _ _ _) _) (Own.from (boxed_own _ _ _) _))) (ownFrom_below (Nat.le_refl _) (by omega)))
    (fun _ _ _ _ _ hs _ _ => hs)
    ⟨⟨⟨_, bR, rowAt_size _ _ _, fun _ => rfl⟩, b5, b2⟩, hB0⟩
    (fun x => { tmps := #[.int .u64 (v : Int), .int .i64 (m : Int), .pointer (some ⟨w.heap.size, 0, none⟩), undef, .string ⟨#[]⟩, .pointer (some ⟨w.heap.size + 1 + 1, 0, none⟩), .int .i64 (x.1 : Int), .int .u64 ((8 * (m - 1 - x.1) : Nat) : Int), .int .i64 (m : Int), .bool false, .bool false, .int .i64 (m : Int), .bool false, .bool false, .int .i64 (m : Int), .slice (some ⟨w.heap.size + 1, 0, none⟩) m m, .int .i64 (m : Int), .func (.func 149) #[] #[.pointer (some ⟨w.heap.size + 1 + 1 + 1, 0, none⟩)], .int .i64 (x.1 : Int), .int .u64 ((8 * (m - 1 - x.1) : Nat) : Int), undef, undef, undef, undef, undef, undef, undef, undef, undef], defers := [] }) ?assign ?body ?done ?stop
  case assign =>
    intro l x W K hK
    gi_wp2
    exact hK
  case body =>
    rintro l pre ⟨k, hk⟩ W ⟨⟨⟨cur, hc, hsz2, hcur⟩, h5, h2⟩, hB⟩ hlt
    have c5 := h5.cell
    have c2 := h2.cell
    obtain ⟨u, hcl⟩ : ∃ u, W.cell? ⟨w.heap.size + 1, k, none⟩ = some u := by
      simp only [World.cell?, hc]
      exact ⟨cur[k], by simp [hsz2, hk]⟩
    have hfr : W.frozen? ⟨w.heap.size + 1, k, none⟩ = false := by simp [World.frozen?, hc]
    have hkz : (k : Int) < (m : Int) := by omega
    have HCUR := hide (And.intro hc (And.intro hsz2 hcur))
    clear hc hsz2 hcur
    gi_wp2
    have hbyte : (v : Int) / 2 ^ (8 * (m - 1 - k)) % 256 = ((byteAt v m k).toNat : Int) := by
      unfold byteAt
      simp
    rw [hbyte]
    obtain ⟨hc, hsz2, hcur⟩ := HCUR.out
    have hnew : (W.setCell ⟨w.heap.size + 1, k, none⟩ (.int .u8 ((byteAt v m k).toNat : Int))).heap[w.heap.size + 1]? = some (.cells (cur.setIfInBounds k (.int .u8 ((byteAt v m k).toNat : Int))) 5 (0, 0)) := by
      obtain ⟨hlt2, hk2⟩ := Array.getElem?_eq_some_iff.1 hc
      show (W.heap.modify (w.heap.size + 1) _)[w.heap.size + 1]? = _
      rw [Array.getElem?_eq_getElem (by rw [Array.size_modify]; exact hlt2), Array.getElem_modify_self, hk2]
      rfl
    have hsame : SameAt (w.heap.size + 1 + 1 + 1) W (W.setCell ⟨w.heap.size + 1, k, none⟩ (.int .u8 ((byteAt v m k).toNat : Int))) := Below.heap_setCell _ _ _ _ (show w.heap.size + 1 + 1 + 1 ≠ w.heap.size + 1 by omega)
    refine ⟨(KeepsOthers.setCell _ _ _).from _, hsame, ⟨⟨_, hnew, by rw [Array.size_setIfInBounds]; exact hsz2, fun hpre => ?_⟩, (Below.heap_setCell W ⟨w.heap.size + 1, k, none⟩ _ (w.heap.size + 1 + 1) (show w.heap.size + 1 + 1 ≠ w.heap.size + 1 by omega)).trans h5, (Below.heap_setCell W ⟨w.heap.size + 1, k, none⟩ _ w.heap.size (show w.heap.size ≠ w.heap.size + 1 by omega)).trans h2⟩, hB.setCell (p := ⟨w.heap.size + 1, k, none⟩) (by simp) _⟩
    rw [List.map_append, List.map_cons, List.map_nil, List.length_append, List.length_singleton, List.range_succ] at hpre
    obtain ⟨e1, e2⟩ := List.append_inj' hpre rfl
    have e3 : k = (pre.map (·.1)).length := by simpa using e2
    have e4 := hcur e1
    rw [List.map_append, List.length_append, List.map_cons, List.map_nil, List.length_singleton, e4, ← e3]
    exact rowAt_set v m k hk
  case done =>
    rintro D ys W hD hys ⟨⟨⟨cur, hc, hsz2, hcur⟩, h5, h2⟩, hB⟩ hK
    have hlen : (ys.map (·.1)).length = m := by rw [hys, List.length_range]
    have hrow := hcur (by rw [hlen, hys])
    rw [hlen] at hrow
    have c5 := h5.cell
    have hconv : (convert 166 9 (.slice (some ⟨w.heap.size + 1, 0, none⟩) m m)).run Try.prog W = .ok (.string (putS v m)) W := by
      have hl : ((List.range m).map (byteAt v m)).length = m := by simp
      have := run_convert_bytes_back (P := Try.prog) W 166 9 5 ⟨w.heap.size + 1, 0, none⟩ m ((List.range m).map (byteAt v m)) Try.underlying166 Try.underlying5 Try.underlying9 (fun j hj => by
        have hadd : (⟨w.heap.size + 1, 0, none⟩ : Addr).add j = ⟨w.heap.size + 1, j, none⟩ := by unfold Addr.add; split <;> simp_all
        rw [hadd]
        simp only [World.cell?, hc, hrow]
        rw [List.length_map, List.length_range] at hj
        simp [rowAt, hj])
      rw [hl] at this
      exact this
    clear hc hsz2 hcur hlen hrow hys
    gi_wp2
    refine ⟨by simp, .inl ⟨_, _, rfl, run_takeDeferred hK, ?_⟩⟩
    exact ⟨_, results_tmp rfl _ _ _, rfl, hB.trans (belowK_b (w := w) (Nat.le_refl _) W D _ _ (by omega) hK rfl rfl)⟩
  case stop =>
    rintro D c pre W _ _ h _
    exact h.elim
end Go.Proofs.Ytiaifphidcfddaa
