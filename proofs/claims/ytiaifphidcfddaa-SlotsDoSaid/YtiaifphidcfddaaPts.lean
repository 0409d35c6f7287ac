/-
  Points: slices.Collect at points.place.
-/
import Derived.Test.YtiaifphidcfddaaEach
set_option linter.unusedVariables false
set_option linter.unusedSimpArgs false
namespace Go.Proofs.Ytiaifphidcfddaa
open Go.RowKit Go.Shelf

attribute [local go_sem] Oper.semAt_some

theorem PEach_calls (a : Option Addr) (len cap : Nat) (w : World) :
    Calls Try.prog 80 #[.slice a len cap] w fun e w' => e = .returned (.func (.func 96) #[] #[.pointer (some ⟨w.heap.size, 0, none⟩)]) ∧ w' = w.alloc (.cells #[.slice a len cap] 31) := by
  go_enter Try.func80, Try.ntmps80
  go_wp2
  go_ret
  exact ⟨rfl, rfl⟩

theorem PEach_stops (n : Nat) (hn : 1 ≤ n) (Bs n₀ : Nat) (a : Option Addr) (len cap : Nat) (xs : List Bk) (hv : Vp xs) (w : World) (hBs : Bs < w.heap.size) (hn₀ : n₀ ≤ w.heap.size)
    (hc : w.cell? ⟨Bs, 0, none⟩ = some (.slice a len cap)) (hr : Rd 2 bkc w a len xs) (hb : ∀ p, a = some p → 0 < len → p.block < n₀) :
    SeqStopsK Fence.wide n Try.prog 96 #[.pointer (some ⟨Bs, 0, none⟩)] (fun x : Pt => #[ptv x]) (Kp n₀) (fun ys => ys = ptsU xs) (fun _ => True) (ptsU xs).length w := fun l J Jx W hW hJ _ hY h0 => by
  refine (PEach1_in n hn l Bs n₀ a len cap xs hv J Jx W hJ hY ((hW.cell (p := ⟨Bs, 0, none⟩) hBs).trans hc) (hr.below hW) hb (Nat.le_trans hn₀ hW.size) h0)

theorem El_pl : El Try.prog 115 118 2 16 (.agg #[.int .u64 0, .int .i64 0]) := El.of Try.underlying115 (by kernel_rfl) (by rfl) (by decide)
theorem ptc_one (x : Pt) : ∀ u ∈ ptc x, u.oneCell' = true := by
  intro u hu
  simp [ptc] at hu
  rcases hu with rfl | rfl <;> rfl

/-- A row of places, the boxes of backends apart. -/
theorem KT.grown {W W' : World} {base : Nat} {v : Value} {n : Nat} {cs : List Value} (h : W.ownsRow base 118 2 v n cs) (hg : W.grownBy W' v.ownBlock) : KT W W' := fun i c m hi => by
  refine (hg.block i (Array.getElem?_eq_some_iff.1 hi).1 (fun e => ?_)).trans hi
  rcases h.2 with ⟨rfl, _⟩ | ⟨g, cap, cur, rfl, _, hh, _⟩
  · cases e
  · simp [Value.ownBlock] at e
    subst e
    rw [hh] at hi; cases hi
theorem KT.setCell {W : World} {B o : Nat} {x : Value} {c : Array Value} {t : TypeId} (hB : W.heap[B]? = some (.cells c t (0, 0))) (ht : t ≠ 56) : KT W (W.setCell ⟨B, o, none⟩ x) := fun i c m hi => by
  refine (Below.heap_setCell _ _ _ _ (fun e => ?_)).trans hi
  simp only at e
  subst e
  rw [hB] at hi; cases hi; exact ht rfl

set_option maxRecDepth 100000 in
set_option maxHeartbeats 4000000 in
theorem PAppendSeq_calls (g : Nat) (lb : Array Value) (eg : ∀ args w, (callFunc g args).run Try.prog w = .ok (.enter g args) w) (xs : List Pt) (n₀ : Nat) (w : World) (hn₀ : n₀ ≤ w.heap.size) (hlen : xs.length < 4294967296)
    (hseq : SeqStopsK Fence.wide 4 Try.prog g lb (fun x : Pt => #[ptv x]) (Kp n₀) (fun ys => ys = xs) (fun _ => True) xs.length w) :
    Calls Try.prog 116 #[.slice none 0 0, .func (.func g) #[] lb] w fun e w' => ∃ v, e = .returned v ∧ Ow 2 ptc 118 w.heap.size w' v xs ∧ Below w.heap.size w w' := by
  refine callsIn_wide (n := 5).1 ?_
  refine callsIn_of_wp_marks Try.func116 rfl trivial ?_ rfl
  simp only [Try.ntmps116, List.size_toArray, List.length_cons, List.length_nil, Nat.reduceAdd, Nat.reduceSub, Array.replicate_succ, Array.replicate_zero, List.push_toArray, List.append_toArray, List.nil_append, List.cons_append]
  gi_wp2
  have bS := Boxed.new w 115 (.slice none 0 0)
  have hB0 : Below w.heap.size w (w.alloc (.cells #[.slice none 0 0] 115)) := (Below.refl _ w).alloc (Nat.le_refl _) _
  have hsz : (w.alloc (.cells #[.slice none 0 0] 115)).heap.size = w.heap.size + 1 := by simp
  obtain ⟨W0, hW0⟩ : ∃ W0, w.alloc (.cells #[.slice none 0 0] 115) = W0 := ⟨_, rfl⟩
  rw [hW0] at bS hB0 hsz ⊢
  clear hW0
  refine wpIn_rangeFunc_ownH rfl (by omega) (gf := g) (lb := lb) rfl trivial eg hseq kpK_t (kpK_b (by omega)) hB0 (fun _ => rfl)
    (fun (pre : List Pt) W => (∃ v, Boxed W w.heap.size 115 v ∧ W.ownsRow w.heap.size 118 2 v pre.length (pre.flatMap ptc) ∧ True) ∧ Below w.heap.size w W)
    (fun _ _ _ => False)
    (OwnFrom.and (Own.from (holdsRow_own w.heap.size w.heap.size 115 118 2 (fun (pre : List Pt) => pre.length) (fun pre => pre.flatMap ptc) (fun _ _ => True)) _) (ownFrom_below (Nat.le_refl _) (by omega)))
    (fun _ _ _ _ _ hs _ _ => hs)
    ⟨⟨_, bS, World.ownsRow_nil _ _ _ _, trivial⟩, hB0⟩
    (fun x a' W => ∃ Bx, W.heap[Bx]? = some (.cells #[.int .u64 x.1, .int .i64 x.2] 118 (0, 0)) ∧ a' = { tmps := #[.slice none 0 0, .func (.func g) #[] lb, .pointer (some ⟨w.heap.size, 0, none⟩), undef, .slice none 0 0, .pointer (some ⟨Bx, 0, none⟩), .func (.func g) #[] lb, ptv x, undef, undef, undef, undef, undef], defers := [] })
    (fun x a' _ X Y row hs hg hr => by
      obtain ⟨Bx, h1, h2⟩ := hs
      refine ⟨Bx, (hg.block Bx (Array.getElem?_eq_some_iff.1 h1).1 (fun e => ?_)).trans h1, h2⟩
      obtain ⟨_, o, ho, hc⟩ := hr Bx e.symm
      rw [h1] at ho; cases ho; cases hc)
    ?assign ?body ?done ?stop
  case assign =>
    rintro l pre ⟨x1, x2⟩ W K ⟨⟨v, hv, hrow, _⟩, hB1⟩ hK
    unfold ptv at hK ⊢
    gi_wp2
    refine hK _ _ ((KeepsOthers.alloc _ _).from _) ⟨(Below.refl _ W).alloc (Nat.le_trans hn₀ hB1.size) _, KT.alloc _ _⟩ ⟨⟨v, hv.alloc _, (World.ownsRow.alloc hrow _), trivial⟩, hB1.alloc hB1.size _⟩ ⟨W.heap.size, World.alloc_heap_new W _, rfl⟩
  case body =>
    rintro l pre ⟨x1, x2⟩ a' W hl hrec ⟨⟨v, hv, hrow, _⟩, hB⟩ ⟨Bx, hx, rfl⟩ hlt
    have hc := hv.cell
    have hx1 : W.cell? ⟨Bx, 0, none⟩ = some (.int .u64 x1) := by simp [World.cell?, hx]
    have hx2 : W.cell? ⟨Bx, 1, none⟩ = some (.int .i64 x2) := by simp [World.cell?, hx]
    have hBx : Bx < W.heap.size := (Array.getElem?_eq_some_iff.1 hx).1
    obtain ⟨i0, hi, hz0, hz1, hz2⟩ := El_pl.hi
    have hlen1 : pre.length + 1 ≤ 4294967296 := by omega
    unfold ptv
    gi_wp2_with (gi_at_builtin; refine wpListIn_append_own _ rfl _ _ 115 rfl w.heap.size 118 i0 (.agg #[.int .u64 0, .int .i64 0]) 2 16 El_pl.ht hi hz0 hz1 hz2 rfl (by decide) _ _ _ rfl (World.ownsRow.alloc hrow _) ⟨W.heap.size, 0, none⟩ 1 1 (ptc (x1, x2)) rfl rfl (fun j u hu => by
        have hadd : (⟨W.heap.size, 0, none⟩ : Addr).add j = ⟨W.heap.size, j, none⟩ := by unfold Addr.add; split <;> simp_all
        rw [hadd]
        simp only [World.cell?, World.alloc, Array.getElem?_push_size]
        simpa [ptc] using hu) (ptc_one _) (by unfold maxLen; omega) (by omega) (by have := hB.size; simp; omega) ?_; intro v' w1 hown' hgrow _; have hKT := hide ((KT.alloc _ _).trans (KT.grown (World.ownsRow.alloc hrow _) hgrow)); obtain ⟨g', cap', rfl⟩ := ownsRow_succ hown'; obtain ⟨hv1, hv2, hr2, hk2, hb2⟩ := hv.appended (by decide) hrow hB.size (Nat.le_refl _) hown' hgrow; have hc1 := hv1.cell; have hf1 := hv1.frozen)
    have hr3 : (w1.setCell ⟨w.heap.size, 0, none⟩ (.slice (some ⟨g', 0, none⟩) (pre.length + 1) cap')).ownsRow w.heap.size 118 2 (.slice (some ⟨g', 0, none⟩) (pre.length + 1) cap') (pre ++ [(x1, x2)]).length ((pre ++ [(x1, x2)]).flatMap ptc) := by
      rw [List.length_append, List.flatMap_append]; simpa [ptc] using hr2
    exact ⟨hk2.from _, ⟨hb2.mono hn₀, hKT.out.trans (KT.setCell hv1 (by decide))⟩, ⟨_, hv2, hr3⟩, hB.trans hb2⟩
  case done =>
    rintro D ys W hD rfl ⟨⟨v, hv, hrow, _⟩, hB⟩ hK
    have hc := hv.cell
    gi_wp2
    refine ⟨by simp, .inl ⟨_, _, rfl, run_takeDeferred hK, ?_⟩⟩
    exact ⟨_, results_tmp rfl _ _ _, v, rfl, ownsRow_putObj hrow _ hK rfl, hB.trans (belowK_b (w := w) (Nat.le_refl _) W D _ _ (by omega) hK rfl rfl)⟩
  case stop =>
    rintro D c pre W _ _ h _
    exact h.elim

theorem PCollect_calls (g : Nat) (lb : Array Value) (eg : ∀ args w, (callFunc g args).run Try.prog w = .ok (.enter g args) w) (xs : List Pt) (n₀ : Nat) (w : World) (hn₀ : n₀ ≤ w.heap.size) (hlen : xs.length < 4294967296)
    (hseq : SeqStopsK Fence.wide 4 Try.prog g lb (fun x : Pt => #[ptv x]) (Kp n₀) (fun ys => ys = xs) (fun _ => True) xs.length w) :
    Calls Try.prog 94 #[.func (.func g) #[] lb] w fun e w' => ∃ v, e = .returned v ∧ Ow 2 ptc 118 w.heap.size w' v xs ∧ Below w.heap.size w w' := by
  have hcon := PAppendSeq_calls g lb eg xs n₀ w hn₀ hlen hseq
  clear hseq
  go_enter Try.func94, Try.ntmps94
  go_wp2_with (go_at_call 116; refine hcon.mono ?_; rintro e w' ⟨v, rfl, ho, hb⟩)
  go_ret
  exact ⟨v, rfl, ho, hb⟩
end Go.Proofs.Ytiaifphidcfddaa
