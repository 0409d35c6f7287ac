/-
  Ranges over functions: slices.Values, slices.AppendSeq, slices.Collect at []api.Backend.
-/
import Derived.Test.YtiaifphidcfddaaPool
import Derived.RangeFuncNested
import Derived.RangeFuncLeaves
import Derived.OwnWalkIn
import Derived.TacticsInMore
import Derived.LoopNIn
import Derived.LoopIn
set_option linter.unusedVariables false
set_option linter.unusedSimpArgs false
namespace Go.Proofs.Ytiaifphidcfddaa
open Go.RowKit Go.Shelf

attribute [local go_sem] Oper.semAt_some

def bkv (x : Bk) : Value := .agg #[.int .i64 x.1, .int .i64 x.2]

set_option maxRecDepth 100000 in
set_option maxHeartbeats 2000000 in
theorem Values1_in (n : Nat) (hn : 1 ≤ n) (l Bs n₀ : Nat) (a : Option Addr) (len cap : Nat) (xs : List Bk) (J Jx : List Bk → World → Prop)
    (W : World) (hJ : AbidesFrom W.heap.size J) (hY : ∀ pre x W, J pre W → pre.length < xs.length → YieldAt Fence.wide (n - 1) Try.prog l #[bkv x] W fun e W' =>
      (e = .returned (.bool true) ∧ J (pre ++ [x]) W' ∧ Below n₀ W W') ∨ (e = .returned (.bool false) ∧ Jx (pre ++ [x]) W'))
    (hBs : W.cell? ⟨Bs, 0, none⟩ = some (.slice a len cap)) (hr : Rd 2 bkc W a len xs) (hb : ∀ p, a = some p → 0 < len → p.block < n₀) (hn₀ : n₀ ≤ W.heap.size) (h0 : J [] W) :
    CallsIn Fence.wide n Try.prog 85 #[.func (.yield l) #[] #[], .pointer (some ⟨Bs, 0, none⟩)] W fun e W' => (∃ v, e = .returned v) ∧
      ((∃ ys, ys = xs ∧ J ys W') ∨ (∃ pre, True ∧ Jx pre W')) := by
  have hl := hr.le
  have HL := hide hr.len
  have HR := hide hr
  have HJ := hide hJ
  have HB := hide hb
  have HY := hide hY
  clear hr hJ hb hY
  refine callsIn_of_wp Try.func85 rfl trivial ?_ rfl
  simp only [Try.ntmps85, List.size_toArray, List.length_cons, List.length_nil, Nat.reduceAdd, Nat.reduceSub, Array.replicate_succ, Array.replicate_zero, List.push_toArray, List.append_toArray, List.nil_append, List.cons_append]
  gi_wp2
  gi_loopw [4, 7] (fun _ i wr => ∃ k : Nat, k ≤ len ∧ i = .int .i64 k ∧ Hid (J (xs.take k) wr) ∧ Hid (Below n₀ W wr) ∧ Hid (W.heap.size ≤ wr.heap.size))
    (fun _ i _ => len - (intOf i).toNat)
  case atStart => exact ⟨0, Nat.zero_le _, rfl, (show Hid _ from h0), Below.refl _ _, Nat.le_refl _⟩
  case round =>
    obtain ⟨k, hk, rfl, HJs, hnx, hsz⟩ := hrel
    by_cases hlt : k < len
    · obtain ⟨b, off, x1, x2, ha, hx, hbl, hc1, hc2⟩ := HR.out.at_bk k hlt
      have hbn : b < n₀ := HB.out _ ha (by omega)
      have HX := hide hx
      clear hx
      subst ha
      have hd1 : wr.cell? ⟨b, off + k * 2, none⟩ = some (.int .i64 x1) := (hnx.out.cell (p := ⟨b, off + k * 2, none⟩) hbn).trans hc1
      have hd2 : wr.cell? ⟨b, off + k * 2 + 1, none⟩ = some (.int .i64 x2) := (hnx.out.cell (p := ⟨b, off + k * 2 + 1, none⟩) hbn).trans hc2
      clear hc1 hc2
      have hJ2 : J (xs.take k) (wr.alloc (.cells #[.int .i64 x1, .int .i64 x2] 56)) := HJ.out _ wr _ none HJs.out (World.grownBy_alloc _ _ _) (fun r e => (by cases e))
      have HYl := HY.out (xs.take k) (x1, x2) _ hJ2 (by rw [List.length_take]; have := HL.out; omega)
      clear hJ2
      obtain ⟨fn, tmps, assign, body, hy, hR⟩ := HYl
      unfold bkv at hy
      gi_wp2
      refine hR.mono ?_
      rintro e W3 (⟨rfl, hJ3, hk3⟩ | ⟨rfl, hJx3⟩)
      · have HJ3 := hide hJ3
        clear hJ3
        have hw3 : Below n₀ W W3 ∧ W.heap.size ≤ W3.heap.size := ⟨hnx.out.trans (((Below.refl n₀ wr).alloc (Nat.le_trans hn₀ hsz.out) _).trans hk3), by have := hk3.size; simp at this; have := hsz.out; omega⟩
        have HW3 := hide hw3
        clear hw3
        gi_wp2
        go_roundw
        case rel => exact ⟨k + 1, by omega, by simp, (show Hid _ from by
            have e1 : xs.take (k + 1) = xs.take k ++ [(x1, x2)] := by rw [List.take_add_one, HX.out]; rfl
            rw [e1]; exact HJ3.out), HW3.out.1, HW3.out.2⟩
        case measure => simp [intOf]; omega
      · have HJ3 := hide hJx3
        clear hJx3
        gi_wp2
        refine bodyPost_ret (results_none rfl _ _ _) rfl ?_
        exact ⟨⟨_, rfl⟩, .inr ⟨_, trivial, HJ3.out⟩⟩
    · obtain rfl : k = len := by omega
      gi_wp2
      go_end0
      exact ⟨⟨_, rfl⟩, .inl ⟨_, (by rw [HL.out, List.take_length]), HJs.out⟩⟩

theorem Values_calls (a : Option Addr) (len cap : Nat) (w : World) :
    Calls Try.prog 65 #[.slice a len cap] w fun e w' => e = .returned (.func (.func 85) #[] #[.pointer (some ⟨w.heap.size, 0, none⟩)]) ∧ w' = w.alloc (.cells #[.slice a len cap] 31) := by
  go_enter Try.func65, Try.ntmps65
  go_wp2
  go_ret
  exact ⟨rfl, rfl⟩

theorem Values_stops (n : Nat) (hn : 1 ≤ n) (Bs n₀ : Nat) (a : Option Addr) (len cap : Nat) (xs : List Bk) (w : World) (hBs : Bs < w.heap.size) (hn₀ : n₀ ≤ w.heap.size)
    (hc : w.cell? ⟨Bs, 0, none⟩ = some (.slice a len cap)) (hr : Rd 2 bkc w a len xs) (hb : ∀ p, a = some p → 0 < len → p.block < n₀) :
    SeqStopsK Fence.wide n Try.prog 85 #[.pointer (some ⟨Bs, 0, none⟩)] (fun x : Bk => #[bkv x]) (Below n₀) (fun ys => ys = xs) (fun _ => True) xs.length w := fun l J Jx W hW hJ _ hY h0 => by
  refine (Values1_in n hn l Bs n₀ a len cap xs J Jx W hJ hY ((hW.cell (p := ⟨Bs, 0, none⟩) hBs).trans hc) (hr.below hW) hb (Nat.le_trans hn₀ hW.size) h0)

/-! ### slices.AppendSeq(nil, seq) against an iterator that gives xs -/
set_option maxRecDepth 100000 in
set_option maxHeartbeats 4000000 in
theorem AppendSeq_calls (g : Nat) (lb : Array Value) (eg : ∀ args w, (callFunc g args).run Try.prog w = .ok (.enter g args) w) (xs : List Bk) (n₀ : Nat) (w : World) (hn₀ : n₀ ≤ w.heap.size) (hlen : xs.length < 4294967296)
    (hseq : SeqStopsK Fence.wide 4 Try.prog g lb (fun x : Bk => #[bkv x]) (Below n₀) (fun ys => ys = xs) (fun _ => True) xs.length w) :
    Calls Try.prog 100 #[.slice none 0 0, .func (.func g) #[] lb] w fun e w' => ∃ v, e = .returned v ∧ Ow 2 bkc 56 w.heap.size w' v xs ∧ Below w.heap.size w w' := by
  refine callsIn_wide (n := 5).1 ?_
  refine callsIn_of_wp_marks Try.func100 rfl trivial ?_ rfl
  simp only [Try.ntmps100, List.size_toArray, List.length_cons, List.length_nil, Nat.reduceAdd, Nat.reduceSub, Array.replicate_succ, Array.replicate_zero, List.push_toArray, List.append_toArray, List.nil_append, List.cons_append]
  gi_wp2
  have bS := Boxed.new w 31 (.slice none 0 0)
  have hB0 : Below w.heap.size w (w.alloc (.cells #[.slice none 0 0] 31)) := (Below.refl _ w).alloc (Nat.le_refl _) _
  have hsz : (w.alloc (.cells #[.slice none 0 0] 31)).heap.size = w.heap.size + 1 := by simp
  obtain ⟨W0, hW0⟩ : ∃ W0, w.alloc (.cells #[.slice none 0 0] 31) = W0 := ⟨_, rfl⟩
  rw [hW0] at bS hB0 hsz ⊢
  clear hW0
  refine wpIn_rangeFunc_ownH rfl (by omega) (gf := g) (lb := lb) rfl trivial eg hseq belowK_t (belowK_b (by omega)) hB0 (fun _ => rfl)
    (fun (pre : List Bk) W => (∃ v, Boxed W w.heap.size 31 v ∧ W.ownsRow w.heap.size 56 2 v pre.length (pre.flatMap bkc) ∧ True) ∧ Below w.heap.size w W)
    (fun _ _ _ => False)
    (OwnFrom.and (Own.from (holdsRow_own w.heap.size w.heap.size 31 56 2 (fun (pre : List Bk) => pre.length) (fun pre => pre.flatMap bkc) (fun _ _ => True)) _) (ownFrom_below (Nat.le_refl _) (by omega)))
    (fun _ _ _ _ _ hs _ _ => hs)
    ⟨⟨_, bS, World.ownsRow_nil _ _ _ _, trivial⟩, hB0⟩
    (fun x a' W => ∃ Bx, W.heap[Bx]? = some (.cells #[.int .i64 x.1, .int .i64 x.2] 56 (0, 0)) ∧ a' = { tmps := #[.slice none 0 0, .func (.func g) #[] lb, .pointer (some ⟨w.heap.size, 0, none⟩), undef, .slice none 0 0, .pointer (some ⟨Bx, 0, none⟩), .func (.func g) #[] lb, bkv x, undef, undef, undef, undef, undef], defers := [] })
    (fun x a' _ X Y row hs hg hr => by
      obtain ⟨Bx, h1, h2⟩ := hs
      refine ⟨Bx, (hg.block Bx (Array.getElem?_eq_some_iff.1 h1).1 (fun e => ?_)).trans h1, h2⟩
      obtain ⟨_, o, ho, hc⟩ := hr Bx e.symm
      rw [h1] at ho; cases ho; cases hc)
    ?assign ?body ?done ?stop
  case assign =>
    rintro l pre ⟨x1, x2⟩ W K ⟨⟨v, hv, hrow, _⟩, hB1⟩ hK
    unfold bkv at hK ⊢
    gi_wp2
    refine hK _ _ ((KeepsOthers.alloc _ _).from _) ((Below.refl _ W).alloc (Nat.le_trans hn₀ hB1.size) _) ⟨⟨v, hv.alloc _, (World.ownsRow.alloc hrow _), trivial⟩, hB1.alloc hB1.size _⟩ ⟨W.heap.size, World.alloc_heap_new W _, rfl⟩
  case body =>
    rintro l pre ⟨x1, x2⟩ a' W hl hrec ⟨⟨v, hv, hrow, _⟩, hB⟩ ⟨Bx, hx, rfl⟩ hlt
    have hc := hv.cell
    have hx1 : W.cell? ⟨Bx, 0, none⟩ = some (.int .i64 x1) := by simp [World.cell?, hx]
    have hx2 : W.cell? ⟨Bx, 1, none⟩ = some (.int .i64 x2) := by simp [World.cell?, hx]
    have hBx : Bx < W.heap.size := (Array.getElem?_eq_some_iff.1 hx).1
    obtain ⟨i0, hi, hz0, hz1, hz2⟩ := El_bk.hi
    have hlen1 : pre.length + 1 ≤ 4294967296 := by omega
    unfold bkv
    gi_wp2_with (gi_at_builtin; refine wpListIn_append_own _ rfl _ _ 31 rfl w.heap.size 56 i0 (.agg #[.int .i64 0, .int .i64 0]) 2 16 El_bk.ht hi hz0 hz1 hz2 rfl (by decide) _ _ _ rfl (World.ownsRow.alloc hrow _) ⟨W.heap.size, 0, none⟩ 1 1 (bkc (x1, x2)) rfl rfl (fun j u hu => by
        have hadd : (⟨W.heap.size, 0, none⟩ : Addr).add j = ⟨W.heap.size, j, none⟩ := by unfold Addr.add; split <;> simp_all
        rw [hadd]
        simp only [World.cell?, World.alloc, Array.getElem?_push_size]
        simpa [bkc] using hu) (bkc_one _) (by unfold maxLen; omega) (by omega) (by have := hB.size; simp; omega) ?_; intro v' w1 hown' hgrow _; obtain ⟨g', cap', rfl⟩ := ownsRow_succ hown'; obtain ⟨hv1, hv2, hr2, hk2, hb2⟩ := hv.appended (by decide) hrow hB.size (Nat.le_refl _) hown' hgrow; have hc1 := hv1.cell; have hf1 := hv1.frozen)
    have hr3 : (w1.setCell ⟨w.heap.size, 0, none⟩ (.slice (some ⟨g', 0, none⟩) (pre.length + 1) cap')).ownsRow w.heap.size 56 2 (.slice (some ⟨g', 0, none⟩) (pre.length + 1) cap') (pre ++ [(x1, x2)]).length ((pre ++ [(x1, x2)]).flatMap bkc) := by
      rw [List.length_append, List.flatMap_append]; simpa [bkc] using hr2
    exact ⟨hk2.from _, hb2.mono hn₀, ⟨_, hv2, hr3⟩, hB.trans hb2⟩
  case done =>
    rintro D ys W hD rfl ⟨⟨v, hv, hrow, _⟩, hB⟩ hK
    have hc := hv.cell
    gi_wp2
    refine ⟨by simp, .inl ⟨_, _, rfl, run_takeDeferred hK, ?_⟩⟩
    exact ⟨_, results_tmp rfl _ _ _, v, rfl, ownsRow_putObj hrow _ hK rfl, hB.trans (belowK_b (w := w) (Nat.le_refl _) W D _ _ (by omega) hK rfl rfl)⟩
  case stop =>
    rintro D c pre W _ _ h _
    exact h.elim

theorem Collect_calls (g : Nat) (lb : Array Value) (eg : ∀ args w, (callFunc g args).run Try.prog w = .ok (.enter g args) w) (xs : List Bk) (n₀ : Nat) (w : World) (hn₀ : n₀ ≤ w.heap.size) (hlen : xs.length < 4294967296)
    (hseq : SeqStopsK Fence.wide 4 Try.prog g lb (fun x : Bk => #[bkv x]) (Below n₀) (fun ys => ys = xs) (fun _ => True) xs.length w) :
    Calls Try.prog 83 #[.func (.func g) #[] lb] w fun e w' => ∃ v, e = .returned v ∧ Ow 2 bkc 56 w.heap.size w' v xs ∧ Below w.heap.size w w' := by
  have hcon := AppendSeq_calls g lb eg xs n₀ w hn₀ hlen hseq
  clear hseq
  go_enter Try.func83, Try.ntmps83
  go_wp2_with (go_at_call 100; refine hcon.mono ?_; rintro e w' ⟨v, rfl, ho, hb⟩)
  go_ret
  exact ⟨v, rfl, ho, hb⟩
end Go.Proofs.Ytiaifphidcfddaa
