/-
  fnv: the hash of bytes.
-/
import Derived.Test.YtiaifphidcfddaaSeq
set_option linter.unusedVariables false
set_option linter.unusedSimpArgs false
namespace Go.Proofs.Ytiaifphidcfddaa
open Go.RowKit Go.Shelf

attribute [local go_sem] Oper.semAt_some

theorem run_store_func {P : Program} {w : World} {a : Addr} {m : Mode} (f : Fn) (c b : Array Value) : (store a (.func f c b) m).run P w = stored P w a (.func f c b) m := run_store P w a _ m rfl
attribute [local go_sem] run_store_func

def nextH (h b : Int) : Int := IntKind.u64.wrap (bits BinOp.xor IntKind.u64 h (IntKind.u64.wrap b) * 1099511628211)
def joinL (h : Int) (l : List UInt8) : Int := l.foldl (fun h (b : UInt8) => nextH h b.toNat) h
def joinH (h : Int) (s : ByteArray) : Int := joinL h s.data.toList
theorem joinL_snoc (h : Int) (l : List UInt8) (b : UInt8) : joinL h (l ++ [b]) = nextH (joinL h l) b.toNat := by simp [joinL]

theorem on_calls (h b : Int) (w : World) : Calls Try.prog 139 #[.int .u64 h, .int .u8 b] w fun e w' => e = .returned (.int .u64 (nextH h b)) ∧ w' = w := by
  go_enter Try.func139, Try.ntmps139
  go_wp2
  go_ret
  exact ⟨rfl, rfl⟩

/-- One block lies as it lay. -/
def SameAt (B : Nat) (A C : World) : Prop := C.heap[B]? = A.heap[B]?
theorem SameAt.trans {B : Nat} {A C D : World} (h : SameAt B A C) (k : SameAt B C D) : SameAt B A D := Eq.trans k h
theorem SameAt.cell {B : Nat} {A C : World} (h : SameAt B A C) {v : Value} (hc : A.cell? ⟨B, 0, none⟩ = some v) : C.cell? ⟨B, 0, none⟩ = some v := (World.cell?_of_block (w := A) (a := ⟨B, 0, none⟩) h).trans hc
theorem sameK_t {B : Nat} {A C D : World} (h : SameAt B A C) (k : SameAt B C D) : SameAt B A D := h.trans k
theorem sameK_b {B : Nat} {w : World} (hn : B < w.heap.size) (W : World) (l : Nat) (o o' : Obj) (hl : w.heap.size ≤ l) (h : W.heap[l]? = some o) (_ : o.isCells = false) (_ : o.isWalk = false) : SameAt B W (W.putObj l o') := World.putObj_heap_other (by omega)

set_option maxRecDepth 100000 in
set_option maxHeartbeats 2000000 in
theorem Each1_in (n : Nat) (hn : 1 ≤ n) (l Bs : Nat) (s : ByteArray) (hs : s.size ≤ 1048576) (J Jx : List UInt8 → World → Prop)
    (W : World) (hY : ∀ pre x W, J pre W → pre.length < s.size → YieldAt Fence.wide (n - 1) Try.prog l #[.int .u8 (x.toNat : Int)] W fun e W' =>
      (e = .returned (.bool true) ∧ J (pre ++ [x]) W' ∧ SameAt Bs W W') ∨ (e = .returned (.bool false) ∧ Jx (pre ++ [x]) W'))
    (hBs : W.cell? ⟨Bs, 0, none⟩ = some (.string s)) (h0 : J [] W) :
    CallsIn Fence.wide n Try.prog 148 #[.func (.yield l) #[] #[], .pointer (some ⟨Bs, 0, none⟩)] W fun e W' => (∃ v, e = .returned v) ∧
      ((∃ ys, ys = s.data.toList ∧ J ys W') ∨ (∃ pre, True ∧ Jx pre W')) := by
  have HY := hide hY
  clear hY
  refine callsIn_of_wp Try.func148 rfl trivial ?_ rfl
  simp only [Try.ntmps148, List.size_toArray, List.length_cons, List.length_nil, Nat.reduceAdd, Nat.reduceSub, Array.replicate_succ, Array.replicate_zero, List.push_toArray, List.append_toArray, List.nil_append, List.cons_append]
  gi_wp2
  gi_loopw [6, 3] (fun i _ wr => ∃ k : Nat, k ≤ s.size ∧ i = .int .i64 k ∧ Hid (J (s.data.toList.take k) wr) ∧ Hid (SameAt Bs W wr))
    (fun i _ _ => s.size - (intOf i).toNat)
  case atStart => exact ⟨0, Nat.zero_le _, rfl, (hide h0), (hide rfl)⟩
  case round =>
    obtain ⟨k, hk, rfl, HJs, hnx⟩ := hrel
    by_cases hlt : k < s.size
    · have hc := hnx.out.cell hBs
      have HYl := HY.out (s.data.toList.take k) s[k] wr HJs.out (by rw [List.length_take]; have : s.data.toList.length = s.size := rfl; omega)
      obtain ⟨fn, tmps, assign, body, hy, hR⟩ := HYl
      have hltz : (k : Int) < (s.size : Int) := by omega
      gi_wp2
      refine hR.mono ?_
      rintro e W3 (⟨rfl, hJ3, hk3⟩ | ⟨rfl, hJx3⟩)
      · have HJ3 := hide hJ3
        have HW3 := hide (hnx.out.trans hk3)
        clear hJ3 hk3
        gi_wp2
        go_roundw
        case rel => exact ⟨k + 1, by omega, by simp, (hide (by
            have e1 : s.data.toList.take (k + 1) = s.data.toList.take k ++ [s[k]] := by
              rw [List.take_add_one, List.getElem?_eq_getElem (show k < s.data.toList.length from hlt)]; rfl
            rw [e1]; exact HJ3.out)), HW3⟩
        case measure => simp [intOf]; omega
      · have HJ3 := hide hJx3
        clear hJx3
        gi_wp2
        refine bodyPost_ret (results_none rfl _ _ _) rfl ?_
        exact ⟨⟨_, rfl⟩, .inr ⟨_, trivial, HJ3.out⟩⟩
    · obtain rfl : k = s.size := by omega
      have hc := hnx.out.cell hBs
      have HJ3 := hide (show J s.data.toList wr by have h := HJs.out; rwa [List.take_of_length_le (show s.data.toList.length ≤ s.size from Nat.le_refl _)] at h)
      gi_wp2
      go_end0
      exact ⟨⟨_, rfl⟩, .inl ⟨_, rfl, HJ3.out⟩⟩

theorem each_calls (s : ByteArray) (w : World) : Calls Try.prog 140 #[.string s] w fun e w' => e = .returned (.func (.func 148) #[] #[.pointer (some ⟨w.heap.size, 0, none⟩)]) ∧ w' = w.alloc (.cells #[.string s] 9) := by
  go_enter Try.func140, Try.ntmps140
  go_wp2
  go_ret
  exact ⟨rfl, rfl⟩

theorem each_stops (n : Nat) (hn : 1 ≤ n) (Bs : Nat) (s : ByteArray) (hs : s.size ≤ 1048576) (w : World) (hBs : Bs < w.heap.size) (hc : w.cell? ⟨Bs, 0, none⟩ = some (.string s)) :
    SeqStopsK Fence.wide n Try.prog 148 #[.pointer (some ⟨Bs, 0, none⟩)] (fun x : UInt8 => #[.int .u8 (x.toNat : Int)]) (SameAt Bs) (fun ys => ys = s.data.toList) (fun _ => True) s.size w := fun l J Jx W hW _ _ hY h0 =>
  Each1_in n hn l Bs s hs J Jx W hY ((hW.cell (p := ⟨Bs, 0, none⟩) hBs).trans hc) h0

set_option maxRecDepth 100000 in
set_option maxHeartbeats 4000000 in
theorem Join_calls (h : Int) (s : ByteArray) (hs : s.size ≤ 1048576) (w : World) :
    Calls Try.prog 118 #[.int .u64 h, .string s] w fun e w' => e = .returned (.int .u64 (joinH h s)) ∧ Below w.heap.size w w' := by
  have hf1 : Fence.wide.fn 140 := trivial
  have hf2 : Fence.wide.fn 139 := trivial
  have eg : ∀ args w, (callFunc 139 args).run Try.prog w = .ok (.enter 139 args) w := enters_of Try.func139 (by kernel_rfl) rfl
  refine callsIn_wide (n := 5).1 ?_
  refine callsIn_of_wp_marks Try.func118 rfl trivial ?_ rfl
  simp only [Try.ntmps118, List.size_toArray, List.length_cons, List.length_nil, Nat.reduceAdd, Nat.reduceSub, Array.replicate_succ, Array.replicate_zero, List.push_toArray, List.append_toArray, List.nil_append, List.cons_append]
  gi_wp2_with (gi_at_call 140; refine (callsIn_wide.2 (each_calls _ _)).mono ?_; rintro e w' ⟨rfl, rfl⟩)
  have b5 := ((Boxed.new w 173 (.func (.func 139) #[] #[])).alloc (.cells #[.int .u64 h] 175)).alloc (.cells #[.string s] 9)
  have b6 := (Boxed.new (w.alloc (.cells #[.func (.func 139) #[] #[]] 173)) 175 (.int .u64 h)).alloc (.cells #[.string s] 9)
  have bS := Boxed.new ((w.alloc (.cells #[.func (.func 139) #[] #[]] 173)).alloc (.cells #[.int .u64 h] 175)) 9 (.string s)
  simp only [World.size_alloc] at b6 bS
  have hB0 : Below w.heap.size w (((w.alloc (.cells #[.func (.func 139) #[] #[]] 173)).alloc (.cells #[.int .u64 h] 175)).alloc (.cells #[.string s] 9)) := (((Below.refl _ w).alloc (Nat.le_refl _) _).alloc (by simp) _).alloc (by simp; omega) _
  have hsz : (((w.alloc (.cells #[.func (.func 139) #[] #[]] 173)).alloc (.cells #[.int .u64 h] 175)).alloc (.cells #[.string s] 9)).heap.size = w.heap.size + 3 := by simp
  obtain ⟨W0, hW0⟩ : ∃ W0, ((w.alloc (.cells #[.func (.func 139) #[] #[]] 173)).alloc (.cells #[.int .u64 h] 175)).alloc (.cells #[.string s] 9) = W0 := ⟨_, rfl⟩
  rw [hW0] at b5 b6 bS hB0 hsz
  rw [hW0]
  clear hW0
  refine wpIn_rangeFunc_ownG rfl (by omega) (gf := 148) (lb := #[.pointer (some ⟨w.heap.size + 1 + 1, 0, none⟩)]) rfl trivial (enters_of Try.func148 (by kernel_rfl) rfl)
    (each_stops 4 (by omega) (w.heap.size + 1 + 1) s hs W0 (by omega) bS.cell) sameK_t (sameK_b (by omega)) (Below.refl _ _) (fun _ => rfl)
    (fun (pre : List UInt8) W => (Boxed W (w.heap.size + 1) 175 (.int .u64 (joinL h pre)) ∧ Boxed W w.heap.size 173 (.func (.func 139) #[] #[])) ∧ Below w.heap.size w W)
    (fun _ _ _ => False)
    (OwnFrom.and (OwnFrom.and (Own.from (boxed_own _ _ _) _) (Own.from (boxed_own _ _ _) _)) (ownFrom_below (Nat.le_refl _) (by omega)))
    (fun _ _ _ _ _ hs _ _ => hs)
    ⟨⟨b6, b5⟩, hB0⟩
    (fun x => { tmps := #[.int .u64 h, .string s, undef, undef, .int .u64 0, .pointer (some ⟨w.heap.size, 0, none⟩), .pointer (some ⟨w.heap.size + 1, 0, none⟩), .int .u8 (x.toNat : Int), .int .u64 h, .string s, .func (.func 148) #[] #[.pointer (some ⟨w.heap.size + 1 + 1, 0, none⟩)], .int .u8 (x.toNat : Int), undef, undef, undef, undef, undef], defers := [] }) ?assign ?body ?done ?stop
  case assign =>
    intro l x W K hK
    gi_wp2
    exact hK
  case body =>
    rintro l pre x W ⟨⟨h6, h5⟩, hB⟩ hlt
    have c6 := h6.cell
    have z6 := h6.frozen
    have c5 := h5.cell
    gi_wp2_with (gi_at_call 139; refine (callsIn_wide.2 (on_calls _ _ _)).mono ?_; rintro e w' ⟨rfl, rfl⟩)
    refine ⟨(KeepsOthers.setCell _ _ _).from _, Below.heap_setCell _ _ _ _ (by simp), ⟨(by rw [joinL_snoc]; exact h6.set _), h5.other (by omega) _⟩, hB.setCell (p := ⟨w.heap.size + 1, 0, none⟩) (by simp) _⟩
  case done =>
    rintro D ys W hD rfl ⟨⟨h6, h5⟩, hB⟩ hK
    have c6 := h6.cell
    gi_wp2
    refine ⟨by simp, .inl ⟨_, _, rfl, run_takeDeferred hK, ?_⟩⟩
    exact ⟨_, results_tmp rfl _ _ _, rfl, hB.trans (belowK_b (w := w) (Nat.le_refl _) W D _ _ (by omega) hK rfl rfl)⟩
  case stop =>
    rintro D c pre W _ _ h _
    exact h.elim

def sumH (s : ByteArray) : Int := joinH 14695981039346656037 s

theorem Sum_calls (s : ByteArray) (hs : s.size ≤ 1048576) (w : World) :
    Calls Try.prog 119 #[.string s] w fun e w' => e = .returned (.int .u64 (sumH s)) ∧ Below w.heap.size w w' := by
  have hcon := Join_calls 14695981039346656037 s hs w
  have HCON := hide hcon
  clear hcon
  go_enter Try.func119, Try.ntmps119
  go_wp2_with (go_at_call 118; refine HCON.out.mono ?_; rintro e w' ⟨rfl, hb⟩)
  go_ret
  exact ⟨rfl, hb⟩

/-! ### The reference's -/
theorem RNext_calls (h b : Int) (w : World) : Calls Try.prog 144 #[.int .u64 h, .int .u8 b] w fun e w' => e = .returned (.int .u64 (nextH h b)) ∧ w' = w := by
  go_enter Try.func144, Try.ntmps144
  go_wp2
  go_ret
  exact ⟨rfl, rfl⟩

set_option maxHeartbeats 1000000 in
theorem RJoin_calls (h : Int) (s : ByteArray) (hs : s.size ≤ 1048576) (w : World) :
    Calls Try.prog 129 #[.int .u64 h, .string s] w fun e w' => e = .returned (.int .u64 (joinH h s)) ∧ w' = w := by
  go_enter Try.func129, Try.ntmps129
  go_wp2
  go_loopg [0, 5] s.size (fun gg s0 s5 wr => ∃ k : Nat, k ≤ s.size ∧ s.size - k ≤ gg ∧ s0 = .int .u64 (joinL h (s.data.toList.take k)) ∧ s5 = .int .i64 k ∧ Hid (wr = w))
  case atStart => exact ⟨0, Nat.zero_le _, by omega, rfl, rfl, (hide rfl)⟩
  case round =>
    obtain ⟨k, hk, hg, rfl, rfl, hw⟩ := hrel
    by_cases hlt : k < s.size
    · have hltz : (k : Int) < (s.size : Int) := by omega
      have e1 : s.data.toList.take (k + 1) = s.data.toList.take k ++ [s[k]] := by
        rw [List.take_add_one, List.getElem?_eq_getElem (show k < s.data.toList.length from hlt)]; rfl
      have E1 := hide e1
      clear e1
      go_wp2_with (go_at_call 144; refine (RNext_calls _ _ _).mono ?_; rintro e w' ⟨rfl, rfl⟩)
      go_roundg (s.size - (k + 1))
      case measure => omega
      case rel => exact ⟨k + 1, by omega, by omega, by rw [E1.out, joinL_snoc], by go_num, hw⟩
    · have hltz : ¬ (k : Int) < (s.size : Int) := by omega
      obtain rfl : k = s.size := by omega
      have HF := hide (show joinL h (s.data.toList.take s.size) = joinH h s by unfold joinH; rw [List.take_of_length_le (show s.data.toList.length ≤ s.size from Nat.le_refl _)])
      go_wp2
      go_ret
      exact ⟨congrArg (fun z => Ending.returned (Value.int .u64 z)) HF.out, hw.out⟩

theorem RSum_calls (s : ByteArray) (hs : s.size ≤ 1048576) (w : World) :
    Calls Try.prog 113 #[.string s] w fun e w' => e = .returned (.int .u64 (sumH s)) ∧ w' = w := by
  have hcon := RJoin_calls 14695981039346656037 s hs w
  have HCON := hide hcon
  clear hcon
  go_enter Try.func113, Try.ntmps113
  go_wp2_with (go_at_call 129; refine HCON.out.mono ?_; rintro e w' ⟨rfl, rfl⟩)
  go_ret
  exact ⟨rfl, rfl⟩
end Go.Proofs.Ytiaifphidcfddaa
