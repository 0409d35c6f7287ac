/-
  A region that draws its order, whose operations yield known values and whose few stores stand in one forced order.
-/
import Derived.Test.YtiaifphidcfddaaGrow
set_option linter.unusedVariables false
set_option linter.unusedSimpArgs false
namespace Go.Proofs.Ytiaifphidcfddaa
open Go.RowKit

/-- May number i come up where the first c writers have come up? -/
def mayAt (ops : Array Oper) (ws : List Nat) (i c : Nat) : Bool :=
  (ws.take c).all (fun k => k != i && !(preds ops k).contains i) && (ws.drop c).all (fun k => !(preds ops i).contains k)
/-- The writers wait for one another. -/
def inRow (ops : Array Oper) : List Nat → Bool
  | [] => true
  | k :: ws => ws.all (fun j => (preds ops j).contains k && j != k) && inRow ops ws

theorem inRow_get {ops : Array Oper} : ∀ {ws : List Nat}, inRow ops ws = true → ∀ {c k : Nat} {x y : Nat}, c < k → ws[c]? = some x → ws[k]? = some y → (preds ops y).contains x = true ∧ y ≠ x
  | [], _, c, k, x, y, _, h, _ => by simp at h
  | z :: ws, h, c, k, x, y, hck, hx, hy => by
    unfold inRow at h
    rw [Bool.and_eq_true, List.all_eq_true] at h
    cases c with
    | zero =>
      simp at hx; subst hx
      cases k with
      | zero => omega
      | succ k =>
        simp at hy
        have := h.1 y (List.mem_of_getElem? hy)
        simpa using this
    | succ c =>
      cases k with
      | zero => omega
      | succ k => exact inRow_get (c := c) (k := k) h.2 (by omega) (by simpa using hx) (by simpa using hy)

section
variable {P : Program} {ops : Array Oper} {Q : Exit → Act → World → Prop}

def nextC (ws : List Nat) (i c : Nat) : Nat := if ws[c]? = some i then c + 1 else c

def dstO (ops : Array Oper) (i : Nat) : Option Tmp := (ops[i]?).bind (·.dst)
/-- The slots that the operations write, one after another. -/
def dlst (ops : Array Oper) : List Nat := ops.toList.filterMap (·.dst)

/-- What is owed for operation number i. -/
def OwesF (P : Program) (ops : Array Oper) (Q : Exit → Act → World → Prop) (n : Nat) (a0 : Act) (ws : List Nat) (V : Nat → Value) (W : Nat → World) (i : Nat) : Prop :=
  ∀ (g : Nat → Value), (∀ d, d < n → (dlst ops).contains d = false → some (g d) = a0.tmps[d]?) → (∀ j, (preds ops i).contains j = true → ∀ d, dstO ops j = some d → g d = V j) →
    ∀ c, c ≤ ws.length → mayAt ops ws i c = true → ∀ K : Act → World → Prop, K ((actOf n g a0.defers).put (dstO ops i) (V i)) (W (nextC ws i c)) → wpOp P ops Q i K (actOf n g a0.defers) (W c)

/-- Each operation writes a slot of its own; r is a rank that the waiting follows. -/
def tidyR (r : List Nat) (ops : Array Oper) : Bool := ((List.range ops.size).all fun i => match ops[i]? with | some o => o.after.all (fun e => !Region.binds .any e || (decide (e.on < ops.size) && decide (r.getD e.on 0 < r.getD i 0))) && (List.range ops.size).all (fun j => i == j || dstO ops i == none || dstO ops i != dstO ops j) | none => true)

theorem fix_step {n : Nat} {a0 : Act} {ws : List Nat} {V : Nat → Value} {W : Nat → World} (r : List Nat) (ht : tidyR r ops = true) (hro : inRow ops ws = true) (hws : ws.all (fun k => decide (k < ops.size)) = true)
    (hop : ∀ i, i < ops.size → OwesF P ops Q n a0 ws V W i)
    (hQ : ∀ (g : Nat → Value), (∀ d, d < n → (dlst ops).contains d = false → some (g d) = a0.tmps[d]?) → (∀ j, j < ops.size → ∀ d, dstO ops j = some d → g d = V j) → Q .normal (actOf n g a0.defers) (W ws.length))
    (hn0 : a0.tmps.size = n) :
    ∀ (fuel : Nat) (listed : Array Bool) (a : Act) (c : Nat), a.defers = a0.defers → a.tmps.size = n → (∀ d, (dlst ops).contains d = false → a.tmps[d]? = a0.tmps[d]?) →
      (∀ d, (dlst ops).contains d = true → d < n) →
      (∀ j, listed[j]? = some true → ∀ d, dstO ops j = some d → a.tmps[d]?.getD undef = V j) → listed.size = ops.size → ((List.range ops.size).filter (fun i => !listed.getD i true)).length ≤ fuel →
      c ≤ ws.length → (∀ k x, ws[k]? = some x → (listed[x]? = some true ↔ k < c)) → (∀ j, listed[j]? = some true → ∀ p, (preds ops j).contains p = true → listed[p]? = some true) →
      wpAny P .any ops Q fuel listed a (W c) := by
  have htd := ht
  unfold tidyR at htd
  rw [List.all_eq_true] at htd
  have hrow : ∀ i o, ops[i]? = some o → (∀ e ∈ o.after, Region.binds .any e = true → e.on < ops.size ∧ r.getD e.on 0 < r.getD i 0) ∧ ∀ j, j < ops.size → i ≠ j → ∀ d, dstO ops i = some d → dstO ops j ≠ some d := by
    intro i o ho
    have hi : i < ops.size := (Array.getElem?_eq_some_iff.1 ho).1
    have := htd i (List.mem_range.2 hi)
    rw [ho] at this
    simp only [Bool.and_eq_true, Array.all_eq_true_iff_forall_mem, List.all_eq_true] at this
    obtain ⟨h2, h3⟩ := this
    refine ⟨fun e he hb => ?_, fun j hj hne d hd he => ?_⟩
    · have := h2 e he
      rw [hb] at this
      simpa using this
    · have := h3 j (List.mem_range.2 hj)
      rw [hd, he] at this
      simp [hne] at this
  have hinj : ∀ i j d, i < ops.size → j < ops.size → dstO ops i = some d → dstO ops j = some d → i = j := by
    intro i j d hi hj he he2
    by_cases e : i = j
    · exact e
    · exact absurd he2 ((hrow i _ (Array.getElem?_eq_getElem hi)).2 j hj e d he)
  have hcont : ∀ i d, i < ops.size → dstO ops i = some d → (dlst ops).contains d = true := by
    intro i d hi hd
    rw [List.contains_iff_mem]
    unfold dlst
    rw [List.mem_filterMap]
    refine ⟨ops[i], by simp, ?_⟩
    unfold dstO at hd
    rw [Array.getElem?_eq_getElem hi] at hd
    simpa using hd
  have hpre : ∀ i j, i < ops.size → ((preds ops i).contains j = true ↔ ∃ e ∈ ops[i]!.after, Region.binds .any e = true ∧ e.on = j) := by
    intro i j hi
    rw [List.contains_iff_mem]
    unfold preds
    rw [Array.getElem?_eq_getElem hi]
    simp [List.mem_map, List.mem_filter, hi, and_assoc]
  have fin : ∀ (listed : Array Bool) (a : Act) (c : Nat), a.defers = a0.defers → a.tmps.size = n → (∀ d, (dlst ops).contains d = false → a.tmps[d]? = a0.tmps[d]?) →
      (∀ j, listed[j]? = some true → ∀ d, dstO ops j = some d → a.tmps[d]?.getD undef = V j) → c ≤ ws.length → (∀ k x, ws[k]? = some x → (listed[x]? = some true ↔ k < c)) → (∀ j, j < ops.size → listed[j]? = some true) → Q .normal a (W c) := by
    intro listed a c hd hs hk hP hc hw hall
    have hcl : c = ws.length := by
      by_cases h : c < ws.length
      · have hx : ws[c]? = some ws[c] := List.getElem?_eq_getElem h
        rw [List.all_eq_true] at hws
        have hb := hws _ (List.getElem_mem h)
        have := (hw c _ hx).1 (hall _ (by simpa using hb))
        omega
      · omega
    have := hQ (fun d => a.tmps[d]?.getD undef) (fun d hdlt hc => (by rw [← hk d hc]; simp [hs, hdlt])) (fun j hj => hP j (hall j hj))
    rw [← hd] at this
    rw [← actOf_of a n hs] at this
    rw [hcl]; exact this
  intro fuel
  induction fuel with
  | zero =>
    intro listed a c hd hs hk hdn hP hsz hf hc hw hcl
    have hnil : (List.range ops.size).filter (fun i => !listed.getD i true) = [] := List.eq_nil_of_length_eq_zero (by omega)
    have hall : ∀ j, j < ops.size → listed[j]? = some true := by
      intro j hj
      have : ¬ (!listed.getD j true) = true := by
        intro h
        have hm : j ∈ (List.range ops.size).filter (fun i => !listed.getD i true) := List.mem_filter.2 ⟨List.mem_range.2 hj, h⟩
        rw [hnil] at hm; cases hm
      have hj' : j < listed.size := by omega
      simp [hj'] at this
      simp [hj', this]
    refine ⟨?_, fin listed a c hd hs hk hP hc hw hall⟩
    unfold Region.ready
    rw [List.filter_eq_nil_iff]
    intro i hi
    have := hall i (List.mem_range.1 hi)
    have hj' : i < listed.size := (Array.getElem?_eq_some_iff.1 this).1
    simp [Array.getElem?_eq_getElem hj'] at this
    simp [hj', this]
  | succ fuel ih =>
    intro listed a c hd hs hk hdn hP hsz hf hc hw hcl
    refine ⟨fun hr => ?_, fun i hi => ?_⟩
    · have hall : ∀ m j, r.getD j 0 ≤ m → j < ops.size → listed[j]? = some true := by
        intro m
        induction m with
        | zero =>
          intro j hm0 hj
          have hj' : j < listed.size := by omega
          cases hlj : listed[j] with
          | true => simp [hj', hlj]
          | false =>
            have hm : j ∈ Region.ready .any ops listed := by
              unfold Region.ready
              rw [List.mem_filter]
              refine ⟨List.mem_range.2 hj, ?_⟩
              have o := hrow j _ (Array.getElem?_eq_getElem hj)
              simp only [Array.getD, hj', dif_pos, Array.getInternal_eq_getElem, hlj, Bool.not_false, Bool.true_and, Array.getElem?_eq_getElem hj, Option.map_some, Option.getD_some, Array.all_eq_true_iff_forall_mem]
              intro e he
              cases hb : Region.binds .any e with
              | false => rfl
              | true => have h1 := o.1 e he hb; omega
            rw [hr] at hm; cases hm
        | succ m ihm =>
          intro j hm0 hj
          have hj' : j < listed.size := by omega
          cases hlj : listed[j] with
          | true => simp [hj', hlj]
          | false =>
            have hm : j ∈ Region.ready .any ops listed := by
              unfold Region.ready
              rw [List.mem_filter]
              refine ⟨List.mem_range.2 hj, ?_⟩
              have o := hrow j _ (Array.getElem?_eq_getElem hj)
              simp only [Array.getD, hj', dif_pos, Array.getInternal_eq_getElem, hlj, Bool.not_false, Bool.true_and, Array.getElem?_eq_getElem hj, Option.map_some, Option.getD_some, Array.all_eq_true_iff_forall_mem]
              intro e he
              cases hb : Region.binds .any e with
              | false => rfl
              | true =>
                have h1 := o.1 e he hb
                have h2 := ihm e.on (by omega) h1.1
                obtain ⟨hlt, h3⟩ := Array.getElem?_eq_some_iff.1 h2
                simp [hlt, h3]
            rw [hr] at hm; cases hm
      exact fin listed a c hd hs hk hP hc hw (fun j hj => hall _ j (Nat.le_refl _) hj)
    · unfold Region.ready at hi
      rw [List.mem_filter, List.mem_range] at hi
      obtain ⟨hilt, hi2⟩ := hi
      rw [Bool.and_eq_true] at hi2
      obtain ⟨hun, hpr⟩ := hi2
      have hoi := Array.getElem?_eq_getElem hilt
      rw [hoi] at hpr
      simp only [Option.map_some, Option.getD_some, Array.all_eq_true_iff_forall_mem] at hpr
      have o := hrow i _ hoi
      have hit : i < listed.size := by omega
      have huni : ¬ listed[i]? = some true := by simp [hit] at hun ⊢; simp [hun]
      have hpl : ∀ j, (preds ops i).contains j = true → listed[j]? = some true := by
        intro j hj
        rw [hpre i j hilt] at hj
        obtain ⟨e, he, hbe, rfl⟩ := hj
        have he' : e ∈ ops[i].after := by simpa [hilt] using he
        have := hpr e he'
        rw [hbe] at this
        simp at this
        by_cases hlt : e.on < listed.size
        · simpa [hlt] using this
        · simp [hlt] at this
      have hmay : mayAt ops ws i c = true := by
        unfold mayAt
        rw [Bool.and_eq_true, List.all_eq_true, List.all_eq_true]
        refine ⟨fun x hx => ?_, fun x hx => ?_⟩
        · obtain ⟨k, hk', rfl⟩ := List.getElem_of_mem hx
          rw [List.length_take] at hk'
          have hxk : ws[k]? = some (ws.take c)[k] := by simp [List.getElem_take]
          have hl := (hw k _ hxk).2 (by omega)
          rw [Bool.and_eq_true]
          refine ⟨?_, ?_⟩
          · rw [bne_iff_ne]; intro e; rw [e] at hl; exact huni hl
          · cases hcc : (preds ops (ws.take c)[k]).contains i with
            | false => rfl
            | true => exact absurd (hcl _ hl i hcc) huni
        · obtain ⟨k, hk', rfl⟩ := List.getElem_of_mem hx
          rw [List.length_drop] at hk'
          have hxk : ws[c + k]? = some (ws.drop c)[k] := by simp [List.getElem_drop]
          have hl : ¬ listed[(ws.drop c)[k]]? = some true := fun h => by have := (hw _ _ hxk).1 h; omega
          cases hcc : (preds ops i).contains (ws.drop c)[k] with
          | false => rfl
          | true => exact absurd (hpl _ hcc) hl
      have := hop i hilt (fun d => a.tmps[d]?.getD undef) (fun d hdlt hc => (by rw [← hk d hc]; simp [hs, hdlt])) (fun j hj => hP j (hpl j hj)) c hc hmay
        (wpAny P .any ops Q fuel (listed.setIfInBounds i true)) ?_
      · rw [← hd] at this
        rwa [← actOf_of a n hs] at this
      · have ha : actOf n (fun d => a.tmps[d]?.getD undef) a0.defers = a := by rw [← hd]; exact (actOf_of a n hs).symm
        rw [ha]
        have hdlt : ∀ d, dstO ops i = some d → d < a.tmps.size := fun d hd => by rw [hs]; exact hdn _ (hcont i d hilt hd)
        have hput : ∀ v, (a.put (dstO ops i) v).defers = a.defers ∧ (a.put (dstO ops i) v).tmps.size = a.tmps.size := fun v => by cases dstO ops i <;> simp [Act.put]
        have hget : ∀ v d, dstO ops i ≠ some d → (a.put (dstO ops i) v).tmps[d]? = a.tmps[d]? := fun v d hne => by
          cases h : dstO ops i with
          | none => rfl
          | some e => simp [Act.put, show e ≠ d from fun e2 => hne (by rw [h, e2])]
        have hlist : ∀ j, (listed.setIfInBounds i true)[j]? = some true ↔ (j = i ∨ listed[j]? = some true) := by
          intro j
          rw [Array.getElem?_setIfInBounds]
          by_cases e : i = j
          · subst e; simp [hit]
          · simp [e, Ne.symm e]
        refine ih _ _ _ ((hput _).1.trans hd) ((hput _).2.trans hs) (fun d hc => ?_) hdn (fun j hj => ?_) (by simpa using hsz) ?_ ?_ (fun k x hx => ?_) (fun j hj p hp => ?_)
        · rw [hget _ d (fun e => by rw [hcont i d hilt e] at hc; cases hc)]
          exact hk d hc
        · intro d hjd
          by_cases hji : j = i
          · subst hji
            rw [hjd]
            simp [Act.put, hdlt d hjd]
          · have hjl : listed[j]? = some true := ((hlist j).1 hj).resolve_left hji
            have hjlt : j < ops.size := by have := (Array.getElem?_eq_some_iff.1 hjl).1; omega
            rw [hget _ d (fun e => hji (hinj j i d hjlt hilt hjd e))]
            exact hP j hjl d hjd
        · have := filter_lt (p := fun k => !listed.getD k true) (q := fun k => !(listed.setIfInBounds i true).getD k true) (i := i) (fun x hx => ?_) hun (by simp [hit]) (List.range ops.size) (List.mem_range.2 hilt)
          · omega
          · by_cases hxi : i = x
            · subst hxi; simp [hit] at hx
            · by_cases hxl : x < listed.size
              · simp [hxl, Array.getElem_setIfInBounds, hxi] at hx ⊢; exact hx
              · simp [hxl] at hx
        · unfold nextC
          split
          · rename_i h; have := (List.getElem?_eq_some_iff.1 h).1; omega
          · exact hc
        · rw [hlist]
          unfold nextC
          split
          · rename_i h
            constructor
            · rintro (e | e)
              · by_cases hkc : k = c
                · omega
                · exfalso
                  subst e
                  by_cases hlt : k < c
                  · exact huni ((hw k _ hx).2 hlt)
                  · exact (inRow_get hro (show c < k by omega) h hx).2 rfl
              · have := (hw k _ hx).1 e; omega
            · intro hlt
              by_cases hkc : k = c
              · subst hkc; rw [h] at hx; exact .inl (by cases hx; rfl)
              · exact .inr ((hw k _ hx).2 (by omega))
          · rename_i h
            constructor
            · rintro (e | e)
              · subst e
                exfalso
                by_cases hlt : k < c
                · exact huni ((hw k _ hx).2 hlt)
                · by_cases hkc : k = c
                  · subst hkc; exact h hx
                  · have hcl2 : c < ws.length := by have := (List.getElem?_eq_some_iff.1 hx).1; omega
                    have hxc : ws[c]? = some ws[c] := List.getElem?_eq_getElem hcl2
                    have := (inRow_get hro (show c < k by omega) hxc hx).1
                    have hl := hpl _ this
                    have := (hw c _ hxc).1 hl
                    omega
              · exact (hw k _ hx).1 e
            · intro hlt
              exact .inr ((hw k _ hx).2 hlt)
        · rw [hlist] at hj ⊢
          rcases hj with rfl | hj
          · exact .inr (hpl p hp)
          · exact .inr (hcl j hj p hp)

/-- The region, from the world behind its draw. -/
theorem wp_region_fix {id : Nat} {a0 : Act} {w0 : World} (n : Nat) (L : List Nat) (r : List Nat) (ws : List Nat) (V : Nat → Value) (W : Nat → World) (hm : P.follows .mixedOrders = true) (ht : tidyR r ops = true) (hro : inRow ops ws = true) (hws : ws.all (fun k => decide (k < ops.size)) = true) (hn : a0.tmps.size = n)
    (hL : dlst ops = L) (hdn : L.all (fun d => decide (d < n)) = true)
    (hW : W 0 = w0.drew)
    (hop : AllBelow (OwesF P ops Q n a0 ws V W) ops.size)
    (hQ : ∀ (g : Nat → Value), (∀ j, j < ops.size → ∀ d, dstO ops j = some d → g d = V j) → Q .normal (putAll a0 g L) (W ws.length)) :
    (Code.region id ops true).wp P Q a0 w0 := by
  have hmem : ∀ d, (dlst ops).contains d = true ↔ d ∈ L := by
    intro d; rw [List.contains_iff_mem, hL]
  refine wp_region_any hm ?_
  have hW' : ({ w0 with drawn := w0.drawn + 1 } : World) = W 0 := hW.symm
  rw [hW']
  refine fix_step r ht hro hws (fun i hi => hop.get hi) (fun g hk hP => ?_) hn _ _ _ 0 rfl hn (fun _ _ => rfl) (fun d hc => ?_) (fun j hj => ?_) (by simp) ?_ (Nat.zero_le _) (fun k x hx => ?_) (fun j hj => ?_)
  · have e : actOf n g a0.defers = putAll a0 g L := by
      have h1 := actOf_of (putAll a0 g L) n (by rw [putAll_size, hn])
      rw [h1, putAll_defers]
      unfold actOf
      congr 2
      apply List.map_congr_left
      intro d hd
      rw [List.mem_range] at hd
      rw [putAll_get g L a0 d (by omega)]
      by_cases hdl : d ∈ L
      · simp [hdl]
      · have hc : (dlst ops).contains d = false := by
          cases hcc : (dlst ops).contains d with
          | false => rfl
          | true => exact absurd ((hmem d).1 hcc) hdl
        rw [if_neg hdl, ← hk d hd hc]
        rfl
    rw [e]
    exact hQ g hP
  · rw [List.all_eq_true] at hdn
    have := hdn _ ((hmem d).1 hc)
    simpa using this
  · rw [Array.getElem?_replicate] at hj
    split at hj <;> cases hj
  · exact Nat.le_trans (List.length_filter_le _ _) (by simp)
  · rw [Array.getElem?_replicate]
    constructor
    · intro h; split at h <;> cases h
    · intro h; omega
  · rw [Array.getElem?_replicate] at hj
    split at hj <;> cases hj
end
end Go.Proofs.Ytiaifphidcfddaa
