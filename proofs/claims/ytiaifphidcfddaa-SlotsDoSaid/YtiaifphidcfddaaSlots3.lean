/-
  slots: read, Has, Pick, Size.
-/
import Derived.Test.YtiaifphidcfddaaSlots2
set_option linter.unusedVariables false
set_option linter.unusedSimpArgs false
namespace Go.Proofs.Ytiaifphidcfddaa
open Go.RowKit Go.Shelf

/-- The pool of a slot that is ready. -/
def rdyS (st : List Sl) (i : Int) : Option (List Bk) := if isS st i then (match st[i.toNat]? with | some (.ready p) => some p | _ => none) else none

theorem rdyS_none {st : List Sl} {i : Int} (h : rdyS st i = none) : isS st i = false ∨ ∃ k : Nat, i = (k : Int) ∧ k < st.length ∧ (st[k]? = some .spoilt ∨ st[k]? = some .building) := by
  unfold rdyS at h
  cases hi : isS st i with
  | false => exact .inl rfl
  | true =>
    obtain ⟨k, rfl, hk⟩ := isS_true hi
    rw [hi, if_pos rfl, Int.toNat_natCast, List.getElem?_eq_getElem hk] at h
    refine .inr ⟨k, rfl, hk, ?_⟩
    rw [List.getElem?_eq_getElem hk]
    cases hs : st[k] with
    | spoilt => exact .inl rfl
    | building => exact .inr rfl
    | ready p => rw [hs] at h; cases h
theorem rdyS_some {st : List Sl} {i : Int} {p : List Bk} (h : rdyS st i = some p) : ∃ k : Nat, i = (k : Int) ∧ k < st.length ∧ st[k]? = some (.ready p) := by
  unfold rdyS at h
  cases hi : isS st i with
  | false => rw [hi] at h; cases h
  | true =>
    obtain ⟨k, rfl, hk⟩ := isS_true hi
    rw [hi, if_pos rfl, Int.toNat_natCast, List.getElem?_eq_getElem hk] at h
    refine ⟨k, rfl, hk, ?_⟩
    rw [List.getElem?_eq_getElem hk]
    cases hs : st[k] with
    | spoilt => rw [hs] at h; cases h
    | building => rw [hs] at h; cases h
    | ready q => rw [hs] at h; cases h; rfl

def TwoI (w : World) (n : Int) (b : Bool) (e : Ending) (w' : World) : Prop := e = .returned (.tuple #[.int .i64 n, .bool b]) ∧ Below w.heap.size w w'
def TwoB (w : World) (n : Bool) (b : Bool) (e : Ending) (w' : World) : Prop := e = .returned (.tuple #[.bool n, .bool b]) ∧ Below w.heap.size w w'

/-! ### type assertions -/
theorem ta_nil (w : World) : (Instr.typeAssert .nilIface 95 79 true).run Try.prog w = .ok (.tuple #[.agg #[.slice none 0 0, .slice none 0 0], .bool false]) w := by kernel_rfl
theorem ta_bld (w : World) : (Instr.typeAssert (.iface 92 (.agg #[])) 95 79 true).run Try.prog w = .ok (.tuple #[.agg #[.slice none 0 0, .slice none 0 0], .bool false]) w := by kernel_rfl
theorem ta_rdy (w : World) (v : Value) : (Instr.typeAssert (.iface 79 v) 95 79 true).run Try.prog w = .ok (.tuple #[v, .bool true]) w := by kernel_rfl
theorem tb_nil (w : World) : (Instr.typeAssert .nilIface 95 92 true).run Try.prog w = .ok (.tuple #[.agg #[], .bool false]) w := by kernel_rfl
theorem tb_bld (w : World) : (Instr.typeAssert (.iface 92 (.agg #[])) 95 92 true).run Try.prog w = .ok (.tuple #[.agg #[], .bool true]) w := by kernel_rfl
theorem tb_rdy (w : World) (v : Value) : (Instr.typeAssert (.iface 79 v) 95 92 true).run Try.prog w = .ok (.tuple #[.agg #[], .bool false]) w := by kernel_rfl

set_option maxRecDepth 100000 in
set_option maxHeartbeats 2000000 in
theorem readI_no (g h : Nat) (st : List Sl) (i : Int) (f : Value) (w : World) (k : SlAt w g h st) (hn : rdyS st i = none) :
    Calls Try.prog 49 #[.pointer (some ⟨g, 0, none⟩), .int .i64 i, f] w (TwoI w 0 false) := by
  have hc := k.ptr
  have h8 := k.2.2.1
  rcases rdyS_none hn with h1 | ⟨m, rfl, hm, hs⟩
  · rcases isS_false h1 with h1 | ⟨h1, h2⟩
    · clear hn k
      go_enter Try.func49, Try.ntmps49
      go_wp2
      go_ret2
      exact ⟨rfl, Below.refl _ _⟩
    · clear hn k
      have h1' : ¬ i < 0 := by omega
      generalize st.length = n at hc h2 h8
      go_enter Try.func49, Try.ntmps49
      go_wp2
      go_ret2
      exact ⟨rfl, Below.refl _ _⟩
  · have h1' : ¬ (m : Int) < 0 := by omega
    have h2 : (m : Int) < (st.length : Int) := by omega
    have hB := hide ((Below.refl w.heap.size w).alloc (Nat.le_refl _) (.cells #[.slice none 0 0, .slice none 0 0] 79))
    rcases hs with hs | hs
    · obtain ⟨v, hv, hsv, _, _⟩ := k.at_ m _ hs
      obtain rfl : v = .nilIface := hsv
      have ta := ta_nil
      clear hn k hs
      generalize st.length = n at hc h2 h8
      go_enter Try.func49, Try.ntmps49
      go_wp2
      go_ret2
      exact ⟨rfl, hB.out⟩
    · obtain ⟨v, hv, hsv, _, _⟩ := k.at_ m _ hs
      obtain rfl : v = .iface 92 (.agg #[]) := hsv
      have ta := ta_bld
      clear hn k hs
      generalize st.length = n at hc h2 h8
      go_enter Try.func49, Try.ntmps49
      go_wp2
      go_ret2
      exact ⟨rfl, hB.out⟩

set_option maxRecDepth 100000 in
set_option maxHeartbeats 2000000 in
theorem readI_yes (g h : Nat) (st : List Sl) (i : Int) (p : List Bk) (f : Nat) (lb : Array Value) (u : Int) (w : World) (k : SlAt w g h st) (hn : rdyS st i = some p)
    (eg : ∀ args w, (callFunc f args).run Try.prog w = .ok (.enter f args) w)
    (hf : ∀ (W : World) a n cap b m cap2, Below w.heap.size w W → Rd 2 bkc W a n p → Rd 2 ptc W b m (ofP p) → m < 4294967296 → Calls Try.prog f (#[.agg #[.slice a n cap, .slice b m cap2]] ++ lb) W fun e w' => e = .returned (.int .i64 u) ∧ Below W.heap.size W w') :
    Calls Try.prog 49 #[.pointer (some ⟨g, 0, none⟩), .int .i64 i, .func (.func f) #[] lb] w (TwoI w u true) := by
  have hc := k.ptr
  have h8 := k.2.2.1
  obtain ⟨m, rfl, hm, hs⟩ := rdyS_some hn
  have h1' : ¬ (m : Int) < 0 := by omega
  have h2 : (m : Int) < (st.length : Int) := by omega
  obtain ⟨v, hv, hsv, _, _⟩ := k.at_ m _ hs
  obtain ⟨a, n, cap, b, l, cap2, rfl, ⟨r1, _⟩, r2, _, hl⟩ := hsv
  have hB := (Below.refl w.heap.size w).alloc (Nat.le_refl _) (.cells #[.slice a n cap, .slice b l cap2] 79)
  have HF := hide (hf (w.alloc (.cells #[.slice a n cap, .slice b l cap2] 79)) a n cap b l cap2 hB (r1.below hB) (r2.below hB) hl)
  have HB := hide hB
  have ta := ta_rdy
  clear hn k hs r1 r2 hf hB
  generalize st.length = n at hc h2 h8
  go_enter Try.func49, Try.ntmps49
  go_wp2_with (go_at_fn f; refine HF.out.mono ?_; rintro e w' ⟨rfl, hb⟩; have HB2 := hide hb; clear hb)
  go_ret2
  exact ⟨rfl, below_then HB.out HB.out.size HB2.out⟩

set_option maxRecDepth 100000 in
set_option maxHeartbeats 2000000 in
theorem readB_no (g h : Nat) (st : List Sl) (i : Int) (f : Value) (w : World) (k : SlAt w g h st) (hn : rdyS st i = none) :
    Calls Try.prog 54 #[.pointer (some ⟨g, 0, none⟩), .int .i64 i, f] w (TwoB w false false) := by
  have hc := k.ptr
  have h8 := k.2.2.1
  rcases rdyS_none hn with h1 | ⟨m, rfl, hm, hs⟩
  · rcases isS_false h1 with h1 | ⟨h1, h2⟩
    · clear hn k
      go_enter Try.func54, Try.ntmps54
      go_wp2
      go_ret2
      exact ⟨rfl, Below.refl _ _⟩
    · clear hn k
      have h1' : ¬ i < 0 := by omega
      generalize st.length = n at hc h2 h8
      go_enter Try.func54, Try.ntmps54
      go_wp2
      go_ret2
      exact ⟨rfl, Below.refl _ _⟩
  · have h1' : ¬ (m : Int) < 0 := by omega
    have h2 : (m : Int) < (st.length : Int) := by omega
    have hB := hide ((Below.refl w.heap.size w).alloc (Nat.le_refl _) (.cells #[.slice none 0 0, .slice none 0 0] 79))
    rcases hs with hs | hs
    · obtain ⟨v, hv, hsv, _, _⟩ := k.at_ m _ hs
      obtain rfl : v = .nilIface := hsv
      have ta := ta_nil
      clear hn k hs
      generalize st.length = n at hc h2 h8
      go_enter Try.func54, Try.ntmps54
      go_wp2
      go_ret2
      exact ⟨rfl, hB.out⟩
    · obtain ⟨v, hv, hsv, _, _⟩ := k.at_ m _ hs
      obtain rfl : v = .iface 92 (.agg #[]) := hsv
      have ta := ta_bld
      clear hn k hs
      generalize st.length = n at hc h2 h8
      go_enter Try.func54, Try.ntmps54
      go_wp2
      go_ret2
      exact ⟨rfl, hB.out⟩

set_option maxRecDepth 100000 in
set_option maxHeartbeats 2000000 in
theorem readB_yes (g h : Nat) (st : List Sl) (i : Int) (p : List Bk) (f : Nat) (lb : Array Value) (u : Bool) (w : World) (k : SlAt w g h st) (hn : rdyS st i = some p)
    (eg : ∀ args w, (callFunc f args).run Try.prog w = .ok (.enter f args) w)
    (hf : ∀ (W : World) a n cap b m cap2, Below w.heap.size w W → Rd 2 bkc W a n p → Rd 2 ptc W b m (ofP p) → m < 4294967296 → Calls Try.prog f (#[.agg #[.slice a n cap, .slice b m cap2]] ++ lb) W fun e w' => e = .returned (.bool u) ∧ Below W.heap.size W w') :
    Calls Try.prog 54 #[.pointer (some ⟨g, 0, none⟩), .int .i64 i, .func (.func f) #[] lb] w (TwoB w u true) := by
  have hc := k.ptr
  have h8 := k.2.2.1
  obtain ⟨m, rfl, hm, hs⟩ := rdyS_some hn
  have h1' : ¬ (m : Int) < 0 := by omega
  have h2 : (m : Int) < (st.length : Int) := by omega
  obtain ⟨v, hv, hsv, _, _⟩ := k.at_ m _ hs
  obtain ⟨a, n, cap, b, l, cap2, rfl, ⟨r1, _⟩, r2, _, hl⟩ := hsv
  have hB := (Below.refl w.heap.size w).alloc (Nat.le_refl _) (.cells #[.slice a n cap, .slice b l cap2] 79)
  have HF := hide (hf (w.alloc (.cells #[.slice a n cap, .slice b l cap2] 79)) a n cap b l cap2 hB (r1.below hB) (r2.below hB) hl)
  have HB := hide hB
  have ta := ta_rdy
  clear hn k hs r1 r2 hf hB
  generalize st.length = n at hc h2 h8
  go_enter Try.func54, Try.ntmps54
  go_wp2_with (go_at_fn f; refine HF.out.mono ?_; rintro e w' ⟨rfl, hb⟩; have HB2 := hide hb; clear hb)
  go_ret2
  exact ⟨rfl, below_then HB.out HB.out.size HB2.out⟩

/-! ### Pick, Has, Size -/
def pickS (st : List Sl) (i h : Int) : Int × Bool := match rdyS st i with | some p => (succP (ofP p) h, true) | none => (0, false)
def hasS (st : List Sl) (i id : Int) : Bool × Bool := match rdyS st i with | some p => (decide (0 ≤ find p id), true) | none => (false, false)
def sizeS (st : List Sl) (i : Int) : Int × Bool := match rdyS st i with | some p => ((p.length : Int), true) | none => (0, false)

theorem Pick1_calls (p : List Bk) (h : Int) (B : Nat) (W : World) (a : Option Addr) (n cap : Nat) (b : Option Addr) (m cap2 : Nat) (r : Rd 2 ptc W b m (ofP p)) (hm : m < 4294967296) (hB : W.cell? ⟨B, 0, none⟩ = some (.int .u64 h)) :
    Calls Try.prog 50 #[.agg #[.slice a n cap, .slice b m cap2], .pointer (some ⟨B, 0, none⟩)] W fun e w' => e = .returned (.int .i64 (succP (ofP p) h)) ∧ Below W.heap.size W w' := by
  have hb0 : Below W.heap.size W (W.alloc (.cells #[.slice a n cap, .slice b m cap2] 79)) := (Below.refl _ _).alloc (Nat.le_refl _) _
  have hB2 := cell_old (.cells #[.slice a n cap, .slice b m cap2] 79) hB
  have HC := hide (Succ_calls b m cap2 (ofP p) h _ (r.below hb0) (srt_pw _) hm)
  have HB0 := hide hb0
  clear r hb0 hB
  go_enter Try.func50, Try.ntmps50
  go_wp2_with (go_at_call 51; refine HC.out.mono ?_; rintro e w' ⟨rfl, hb⟩; have HB2 := hide hb; clear hb)
  go_ret
  exact ⟨rfl, below_then HB0.out HB0.out.size HB2.out⟩

theorem Size1_calls (p : List Bk) (W : World) (a : Option Addr) (n cap : Nat) (b : Option Addr) (m cap2 : Nat) (r : Rd 2 bkc W a n p) :
    Calls Try.prog 57 #[.agg #[.slice a n cap, .slice b m cap2]] W fun e w' => e = .returned (.int .i64 (p.length : Int)) ∧ Below W.heap.size W w' := by
  have hb0 : Below W.heap.size W (W.alloc (.cells #[.slice a n cap, .slice b m cap2] 79)) := (Below.refl _ _).alloc (Nat.le_refl _) _
  have HL := hide r.len
  have HB0 := hide hb0
  have hn := r.le
  clear r hb0
  go_enter Try.func57, Try.ntmps57
  go_wp2
  go_ret
  exact ⟨by rw [← HL.out]; rfl, HB0.out⟩

theorem has_calls (p : List Bk) (id : Int) (W : World) (a : Option Addr) (n cap : Nat) (r : Rd 2 bkc W a n p) :
    Calls Try.prog 56 #[.slice a n cap, .int .i64 id] W fun e w' => e = .returned (.bool (decide (0 ≤ find p id))) ∧ Below W.heap.size W w' := by
  have HC := hide (Find_calls a n cap p id W r)
  clear r
  generalize find p id = f at HC ⊢
  go_enter Try.func56, Try.ntmps56
  go_wp2_with (go_at_call 29; refine HC.out.mono ?_; rintro e w' ⟨rfl, hb⟩; have HB2 := hide hb; clear hb)
  go_ret
  exact ⟨rfl, HB2.out⟩

theorem Has1_calls (p : List Bk) (id : Int) (B : Nat) (W : World) (a : Option Addr) (n cap : Nat) (b : Option Addr) (m cap2 : Nat) (r : Rd 2 bkc W a n p) (hB : W.cell? ⟨B, 0, none⟩ = some (.int .i64 id)) :
    Calls Try.prog 55 #[.agg #[.slice a n cap, .slice b m cap2], .pointer (some ⟨B, 0, none⟩)] W fun e w' => e = .returned (.bool (decide (0 ≤ find p id))) ∧ Below W.heap.size W w' := by
  have hb0 : Below W.heap.size W (W.alloc (.cells #[.slice a n cap, .slice b m cap2] 79)) := (Below.refl _ _).alloc (Nat.le_refl _) _
  have hB2 := cell_old (.cells #[.slice a n cap, .slice b m cap2] 79) hB
  have HC := hide (has_calls p id _ a n cap (r.below hb0))
  have HB0 := hide hb0
  clear r hb0 hB
  generalize decide (0 ≤ find p id) = q at HC ⊢
  go_enter Try.func55, Try.ntmps55
  go_wp2_with (go_at_call 56; refine HC.out.mono ?_; rintro e w' ⟨rfl, hb⟩; have HB2 := hide hb; clear hb)
  go_ret
  exact ⟨rfl, below_then HB0.out HB0.out.size HB2.out⟩

theorem Pick_calls (g h : Nat) (st : List Sl) (i hh : Int) (w : World) (k : SlAt w g h st) :
    Calls Try.prog 20 #[.pointer (some ⟨g, 0, none⟩), .int .i64 i, .int .u64 hh] w (TwoI w (pickS st i hh).1 (pickS st i hh).2) := by
  have hb0 : Below w.heap.size w (w.alloc (.cells #[.int .u64 hh] 23)) := (Below.refl _ _).alloc (Nat.le_refl _) _
  have k2 := k.below hb0
  have HC : Hid (Calls Try.prog 49 #[.pointer (some ⟨g, 0, none⟩), .int .i64 i, .func (.func 50) #[] #[.pointer (some ⟨w.heap.size, 0, none⟩)]] (w.alloc (.cells #[.int .u64 hh] 23)) (TwoI (w.alloc (.cells #[.int .u64 hh] 23)) (pickS st i hh).1 (pickS st i hh).2)) := hide (by
    cases hr : rdyS st i with
    | none =>
      have e : pickS st i hh = (0, false) := by unfold pickS; rw [hr]
      rw [e]
      exact readI_no g h st i _ _ k2 hr
    | some p =>
      have e : pickS st i hh = (succP (ofP p) hh, true) := by unfold pickS; rw [hr]
      rw [e]
      exact readI_yes g h st i p 50 _ _ _ k2 hr (enters_of Try.func50 (by kernel_rfl) rfl) (fun W a n cap b m cap2 hW r1 r2 hm => Pick1_calls p hh w.heap.size W a n cap b m cap2 r2 hm (cell_later hW (by simp))))
  have HB0 := hide hb0
  clear k k2 hb0
  generalize (pickS st i hh).1 = u at HC ⊢
  generalize (pickS st i hh).2 = v at HC ⊢
  go_enter Try.func20, Try.ntmps20
  go_wp2_with (go_at_call 49; refine HC.out.mono ?_; rintro e w' ⟨rfl, hb⟩; have HB2 := hide hb; clear hb)
  go_ret2
  exact ⟨rfl, below_then HB0.out HB0.out.size HB2.out⟩

theorem Has_calls (g h : Nat) (st : List Sl) (i id : Int) (w : World) (k : SlAt w g h st) :
    Calls Try.prog 22 #[.pointer (some ⟨g, 0, none⟩), .int .i64 i, .int .i64 id] w (TwoB w (hasS st i id).1 (hasS st i id).2) := by
  have hb0 : Below w.heap.size w (w.alloc (.cells #[.int .i64 id] 3)) := (Below.refl _ _).alloc (Nat.le_refl _) _
  have k2 := k.below hb0
  have HC : Hid (Calls Try.prog 54 #[.pointer (some ⟨g, 0, none⟩), .int .i64 i, .func (.func 55) #[] #[.pointer (some ⟨w.heap.size, 0, none⟩)]] (w.alloc (.cells #[.int .i64 id] 3)) (TwoB (w.alloc (.cells #[.int .i64 id] 3)) (hasS st i id).1 (hasS st i id).2)) := hide (by
    cases hr : rdyS st i with
    | none =>
      have e : hasS st i id = (false, false) := by unfold hasS; rw [hr]
      rw [e]
      exact readB_no g h st i _ _ k2 hr
    | some p =>
      have e : hasS st i id = (decide (0 ≤ find p id), true) := by unfold hasS; rw [hr]
      rw [e]
      exact readB_yes g h st i p 55 _ _ _ k2 hr (enters_of Try.func55 (by kernel_rfl) rfl) (fun W a n cap b m cap2 hW r1 r2 hm => Has1_calls p id w.heap.size W a n cap b m cap2 r1 (cell_later hW (by simp))))
  have HB0 := hide hb0
  clear k k2 hb0
  generalize (hasS st i id).1 = u at HC ⊢
  generalize (hasS st i id).2 = v at HC ⊢
  go_enter Try.func22, Try.ntmps22
  go_wp2_with (go_at_call 54; refine HC.out.mono ?_; rintro e w' ⟨rfl, hb⟩; have HB2 := hide hb; clear hb)
  go_ret2
  exact ⟨rfl, below_then HB0.out HB0.out.size HB2.out⟩

theorem Size_calls (g h : Nat) (st : List Sl) (i : Int) (w : World) (k : SlAt w g h st) :
    Calls Try.prog 24 #[.pointer (some ⟨g, 0, none⟩), .int .i64 i] w (TwoI w (sizeS st i).1 (sizeS st i).2) := by
  have HC : Hid (Calls Try.prog 49 #[.pointer (some ⟨g, 0, none⟩), .int .i64 i, .func (.func 57) #[] #[]] w (TwoI w (sizeS st i).1 (sizeS st i).2)) := hide (by
    cases hr : rdyS st i with
    | none =>
      have e : sizeS st i = (0, false) := by unfold sizeS; rw [hr]
      rw [e]
      exact readI_no g h st i _ _ k hr
    | some p =>
      have e : sizeS st i = ((p.length : Int), true) := by unfold sizeS; rw [hr]
      rw [e]
      exact readI_yes g h st i p 57 _ _ _ k hr (enters_of Try.func57 (by kernel_rfl) rfl) (fun W a n cap b m cap2 hW r1 r2 hm => Size1_calls p W a n cap b m cap2 r1))
  clear k
  generalize (sizeS st i).1 = u at HC ⊢
  generalize (sizeS st i).2 = v at HC ⊢
  go_enter Try.func24, Try.ntmps24
  go_wp2_with (go_at_call 49; refine HC.out.mono ?_; rintro e w' ⟨rfl, hb⟩; have HB2 := hide hb; clear hb)
  go_ret2
  exact ⟨rfl, HB2.out⟩
end Go.Proofs.Ytiaifphidcfddaa
