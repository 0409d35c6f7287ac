/-
  A region that draws its order and only grows memory: every operation is shown once, whatever order is drawn.
-/
import Derived.Test.YtiaifphidcfddaaMem
import Derived.Orders
set_option linter.unusedVariables false
set_option linter.unusedSimpArgs false
namespace Go.Proofs.Ytiaifphidcfddaa
open Go.RowKit

theorem filter_lt {p q : Nat → Bool} {i : Nat} (hpq : ∀ x, q x = true → p x = true) (hp : p i = true) (hq : q i = false) : ∀ l : List Nat, i ∈ l → (l.filter q).length < (l.filter p).length
  | [], h => by cases h
  | x :: l, h => by
    have hle : ∀ l : List Nat, (l.filter q).length ≤ (l.filter p).length := by
      intro l
      induction l with
      | nil => exact Nat.le_refl _
      | cons y l ih =>
        simp only [List.filter_cons]
        cases hy : q y with
        | true => simp [hpq y hy, ih]
        | false => cases p y <;> simp <;> omega
    rcases List.mem_cons.1 h with rfl | h'
    · simp only [List.filter_cons, hp, hq]
      have := hle l
      simp; omega
    · have := filter_lt hpq hp hq l h'
      simp only [List.filter_cons]
      cases hy : q x with
      | true => simp [hpq x hy]; omega
      | false => cases p x <;> simp <;> omega

/-- The slots that the operations write. -/
def dsts (ops : Array Oper) : List (Option Tmp) := ops.toList.map (·.dst)
/-- Each operation waits for earlier ones alone; each writes a slot of its own. -/
def tidy (ops : Array Oper) : Bool := ((List.range ops.size).all fun i => match ops[i]? with | some o => o.dst.isSome && o.after.all (fun e => !Region.binds .any e || decide (e.on < i)) | none => true) && decide ((dsts ops).Nodup)

/-- The operations that number i waits for. -/
def preds (ops : Array Oper) (i : Nat) : List Nat := match ops[i]? with | some o => ((o.after.toList.filter (Region.binds .any)).map (·.on)) | none => []
def dstOf (ops : Array Oper) (i : Nat) : Nat := ((ops[i]?).bind (·.dst)).getD 0

/-- The activation whose slots hold g's values. -/
def actOf (n : Nat) (g : Nat → Value) (ds : List Deferred) : Act := { tmps := ((List.range n).map g).toArray, defers := ds }

def AllBelow (p : Nat → Prop) : Nat → Prop
  | 0 => True
  | n + 1 => AllBelow p n ∧ p n
theorem AllBelow.get {p : Nat → Prop} : ∀ {n i : Nat}, AllBelow p n → i < n → p i
  | 0, i, _, h => by omega
  | n + 1, i, ⟨h1, h2⟩, h => by
    by_cases e : i = n
    · subst e; exact h2
    · exact h1.get (by omega)

section
variable {P : Program} {ops : Array Oper} {Q : Exit → Act → World → Prop}

/-- What is owed for operation number i. -/
def Owes (P : Program) (ops : Array Oper) (Q : Exit → Act → World → Prop) (n : Nat) (a0 : Act) (Base : World → Prop) (Post : Nat → Value → World → Prop) (i : Nat) : Prop :=
  ∀ (g : Nat → Value) (w : World), Base w → (∀ d, d < n → (dsts ops).contains (some d) = false → some (g d) = a0.tmps[d]?) → (∀ j, (preds ops i).contains j = true → Post j (g (dstOf ops j)) w) →
    ∀ K : Act → World → Prop, (∀ v w', Below w.heap.size w w' → Base w' → Post i v w' → K ((actOf n g a0.defers).put (some (dstOf ops i)) v) w') → wpOp P ops Q i K (actOf n g a0.defers) w

theorem actOf_of (a : Act) (n : Nat) (hn : a.tmps.size = n) : a = actOf n (fun d => a.tmps[d]?.getD undef) a.defers := by
  obtain ⟨t, ds⟩ := a
  simp only at hn
  subst hn
  unfold actOf
  congr 1
  apply Array.ext_getElem?
  intro i
  simp only [List.getElem?_toArray, List.getElem?_map, List.getElem?_range]
  by_cases h : i < t.size
  · simp [h]
  · simp [h]

theorem grow_step {n : Nat} {a0 : Act} {Base : World → Prop} {Post : Nat → Value → World → Prop} (ht : tidy ops = true)
    (hst : ∀ i v w w', Post i v w → Below w.heap.size w w' → Post i v w')
    (hop : ∀ i, i < ops.size → Owes P ops Q n a0 Base Post i)
    (hQ : ∀ (g : Nat → Value) (w : World), Base w → (∀ d, d < n → (dsts ops).contains (some d) = false → some (g d) = a0.tmps[d]?) → (∀ j, j < ops.size → Post j (g (dstOf ops j)) w) → Q .normal (actOf n g a0.defers) w)
    (hn0 : a0.tmps.size = n) :
    ∀ (fuel : Nat) (listed : Array Bool) (a : Act) (w : World), a.defers = a0.defers → a.tmps.size = n → Base w → (∀ d, (dsts ops).contains (some d) = false → a.tmps[d]? = a0.tmps[d]?) →
      (∀ d, (dsts ops).contains (some d) = true → d < n) →
      (∀ j, listed[j]? = some true → Post j (a.tmps[dstOf ops j]?.getD undef) w) → listed.size = ops.size → ((List.range ops.size).filter (fun i => !listed.getD i true)).length ≤ fuel →
      wpAny P .any ops Q fuel listed a w := by
  have htd := ht
  unfold tidy at htd
  rw [Bool.and_eq_true, List.all_eq_true] at htd
  obtain ⟨ht1, ht2⟩ := htd
  have hnodup : (dsts ops).Nodup := of_decide_eq_true ht2
  have hrow : ∀ i o, ops[i]? = some o → o.dst = some (dstOf ops i) ∧ ∀ e ∈ o.after, Region.binds .any e = true → e.on < i := by
    intro i o ho
    have hi : i < ops.size := (Array.getElem?_eq_some_iff.1 ho).1
    have := ht1 i (List.mem_range.2 hi)
    rw [ho] at this
    simp only [Bool.and_eq_true, Array.all_eq_true_iff_forall_mem] at this
    obtain ⟨h1, h2⟩ := this
    refine ⟨?_, fun e he hb => ?_⟩
    · unfold dstOf; rw [ho]; simp only [Option.bind_some]
      cases hd : o.dst with
      | none => rw [hd] at h1; cases h1
      | some d => rfl
    · have := h2 e he
      rw [hb] at this
      simpa using this
  have hinj : ∀ i j, i < ops.size → j < ops.size → dstOf ops i = dstOf ops j → i = j := by
    intro i j hi hj he
    have oi := (hrow i _ (Array.getElem?_eq_getElem hi)).1
    have oj := (hrow j _ (Array.getElem?_eq_getElem hj)).1
    have hl : (dsts ops).length = ops.size := by simp [dsts]
    have gi : (dsts ops)[i]'(by omega) = some (dstOf ops i) := by simp [dsts, oi]
    have gj : (dsts ops)[j]'(by omega) = some (dstOf ops j) := by simp [dsts, oj]
    exact (List.getElem_inj hnodup).1 (by rw [gi, gj, he])
  have hcont : ∀ i, i < ops.size → (dsts ops).contains (some (dstOf ops i)) = true := by
    intro i hi
    have oi := (hrow i _ (Array.getElem?_eq_getElem hi)).1
    rw [List.contains_iff_mem]
    have hl : (dsts ops).length = ops.size := by simp [dsts]
    have gi : (dsts ops)[i]'(by omega) = some (dstOf ops i) := by simp [dsts, oi]
    rw [← gi]; exact List.getElem_mem _
  intro fuel
  induction fuel with
  | zero =>
    intro listed a w hd hs hB hk hdn hP hsz hf
    have hnil : (List.range ops.size).filter (fun i => !listed.getD i true) = [] := List.eq_nil_of_length_eq_zero (by omega)
    have hall : ∀ j, j < ops.size → listed[j]? = some true := by
      intro j hj
      have : ¬ (!listed.getD j true) = true := by
        intro h
        have hm : j ∈ (List.range ops.size).filter (fun i => !listed.getD i true) := List.mem_filter.2 ⟨List.mem_range.2 hj, h⟩
        rw [hnil] at hm; cases hm
      have hj' : j < listed.size := by omega
      simp [hj'] at this
      simp [hj', this]
    refine ⟨?_, ?_⟩
    · unfold Region.ready
      rw [List.filter_eq_nil_iff]
      intro i hi
      have := hall i (List.mem_range.1 hi)
      have hj' : i < listed.size := (Array.getElem?_eq_some_iff.1 this).1
      simp [Array.getElem?_eq_getElem hj'] at this
      simp [hj', this]
    · have := hQ (fun d => a.tmps[d]?.getD undef) w hB (fun d hdlt hc => (by rw [← hk d hc]; simp [hs, hdlt])) (fun j hj => hP j (hall j hj))
      rw [← hd] at this
      rwa [← actOf_of a n hs] at this
  | succ fuel ih =>
    intro listed a w hd hs hB hk hdn hP hsz hf
    refine ⟨fun hr => ?_, fun i hi => ?_⟩
    · have hall : ∀ j, j < ops.size → listed[j]? = some true := by
        intro j
        induction j using Nat.strongRecOn with
        | _ j ihj =>
          intro hj
          have hj' : j < listed.size := by omega
          cases hlj : listed[j] with
          | true => simp [hj', hlj]
          | false =>
            have hm : j ∈ Region.ready .any ops listed := by
              unfold Region.ready
              rw [List.mem_filter]
              refine ⟨List.mem_range.2 hj, ?_⟩
              have o := hrow j _ (Array.getElem?_eq_getElem hj)
              simp only [Array.getD, hj', dif_pos, Array.getInternal_eq_getElem, hlj, Bool.not_false, Bool.true_and, Array.getElem?_eq_getElem hj, Option.map_some, Option.getD_some, Array.all_eq_true_iff_forall_mem]
              intro e he
              cases hb : Region.binds .any e with
              | false => rfl
              | true =>
                have h1 := o.2 e he hb
                have h2 := ihj e.on h1 (by omega)
                obtain ⟨hlt, h3⟩ := Array.getElem?_eq_some_iff.1 h2
                simp [hlt, h3]
            rw [hr] at hm; cases hm
      have := hQ (fun d => a.tmps[d]?.getD undef) w hB (fun d hdlt hc => (by rw [← hk d hc]; simp [hs, hdlt])) (fun j hj => hP j (hall j hj))
      rw [← hd] at this
      rwa [← actOf_of a n hs] at this
    · have hir := hi
      unfold Region.ready at hi
      rw [List.mem_filter, List.mem_range] at hi
      obtain ⟨hilt, hi2⟩ := hi
      rw [Bool.and_eq_true] at hi2
      obtain ⟨hun, hpr⟩ := hi2
      have hoi := Array.getElem?_eq_getElem hilt
      rw [hoi] at hpr
      simp only [Option.map_some, Option.getD_some, Array.all_eq_true_iff_forall_mem] at hpr
      have o := hrow i _ hoi
      have hit : i < listed.size := by omega
      have := hop i hilt (fun d => a.tmps[d]?.getD undef) w hB (fun d hdlt hc => (by rw [← hk d hc]; simp [hs, hdlt])) (fun j hj => ?_)
        (wpAny P .any ops Q fuel (listed.setIfInBounds i true)) (fun v w' hb hB' hpost => ?_)
      · rw [← hd] at this
        rwa [← actOf_of a n hs] at this
      · rw [List.contains_iff_mem] at hj
        unfold preds at hj
        rw [hoi] at hj
        simp only [List.mem_map, List.mem_filter] at hj
        obtain ⟨e, ⟨he, hbe⟩, rfl⟩ := hj
        have := hpr e (Array.mem_toList_iff.1 he)
        rw [hbe] at this
        simp at this
        refine hP _ ?_
        by_cases hlt : e.on < listed.size
        · simpa [hlt] using this
        · simp [hlt] at this
      · have ha : actOf n (fun d => a.tmps[d]?.getD undef) a0.defers = a := by rw [← hd]; exact (actOf_of a n hs).symm
        rw [ha]
        have hdlt : dstOf ops i < a.tmps.size := by rw [hs]; exact hdn _ (hcont i hilt)
        refine ih _ _ w' (by simpa [Act.put] using hd) (by simpa [Act.put] using hs) hB' (fun d hc => ?_) hdn (fun j hj => ?_) (by simpa using hsz) ?_
        · have hne : dstOf ops i ≠ d := fun e => by rw [← e, hcont i hilt] at hc; cases hc
          simp only [Act.put, Array.getElem?_setIfInBounds, hne, if_false]
          exact hk d hc
        · by_cases hji : j = i
          · subst hji
            simp only [Act.put, Array.getElem?_setIfInBounds, if_true, hdlt, Option.getD_some]
            exact hpost
          · have hjl : listed[j]? = some true := by
              rw [Array.getElem?_setIfInBounds] at hj
              rwa [if_neg (Ne.symm hji)] at hj
            have hjlt : j < ops.size := by have := (Array.getElem?_eq_some_iff.1 hjl).1; omega
            have hne : dstOf ops i ≠ dstOf ops j := fun e => hji (hinj i j hilt hjlt e).symm
            simp only [Act.put, Array.getElem?_setIfInBounds, hne, if_false]
            exact hst _ _ _ _ (hP j hjl) hb
        · have := filter_lt (p := fun k => !listed.getD k true) (q := fun k => !(listed.setIfInBounds i true).getD k true) (i := i) (fun x hx => ?_) hun (by simp [hit]) (List.range ops.size) (List.mem_range.2 hilt)
          · omega
          · by_cases hxi : i = x
            · subst hxi; simp [hit] at hx
            · by_cases hxl : x < listed.size
              · simp [hxl, Array.getElem_setIfInBounds, hxi] at hx ⊢; exact hx
              · simp [hxl] at hx

/-- The activation behind the region: the slots that it wrote hold g's values, the others what they held. -/
def putAll (a : Act) (g : Nat → Value) : List Nat → Act
  | [] => a
  | d :: L => putAll (a.put (some d) (g d)) g L

theorem putAll_defers (g : Nat → Value) : ∀ (L : List Nat) (a : Act), (putAll a g L).defers = a.defers
  | [], _ => rfl
  | d :: L, a => (putAll_defers g L _).trans rfl
theorem putAll_size (g : Nat → Value) : ∀ (L : List Nat) (a : Act), (putAll a g L).tmps.size = a.tmps.size
  | [], _ => rfl
  | d :: L, a => (putAll_size g L _).trans (by simp [Act.put])
theorem putAll_get (g : Nat → Value) : ∀ (L : List Nat) (a : Act) (d : Nat), d < a.tmps.size → (putAll a g L).tmps[d]? = if d ∈ L then some (g d) else a.tmps[d]?
  | [], a, d, _ => by simp [putAll]
  | e :: L, a, d, h => by
    unfold putAll
    rw [putAll_get g L _ d (by simpa [Act.put] using h)]
    by_cases h1 : d ∈ L
    · simp [h1]
    · by_cases h2 : e = d
      · subst h2; simp [h1, Act.put, h]
      · simp [h1, Act.put, h2, Ne.symm h2]

/-- The region, from the world behind its draw. -/
theorem wp_region_grow {id : Nat} {a0 : Act} {w0 : World} (n : Nat) (L : List Nat) (Base : World → Prop) (Post : Nat → Value → World → Prop) (hm : P.follows .mixedOrders = true) (ht : tidy ops = true) (hn : a0.tmps.size = n)
    (hL : (List.range ops.size).map (dstOf ops) = L) (hdn : L.all (fun d => decide (d < n)) = true)
    (hB : Base w0.drew) (hst : ∀ i v w w', Post i v w → Below w.heap.size w w' → Post i v w')
    (hop : AllBelow (Owes P ops Q n a0 Base Post) ops.size)
    (hQ : ∀ (g : Nat → Value) (w : World), Base w → (∀ j, j < ops.size → Post j (g (dstOf ops j)) w) → Q .normal (putAll a0 g L) w) :
    (Code.region id ops true).wp P Q a0 w0 := by
  have htd := ht
  unfold tidy at htd
  rw [Bool.and_eq_true, List.all_eq_true] at htd
  have hmem : ∀ d, (dsts ops).contains (some d) = true ↔ d ∈ L := by
    intro d
    rw [List.contains_iff_mem, ← hL]
    simp only [dsts, List.mem_map, List.mem_range]
    constructor
    · rintro ⟨o, ho, hd⟩
      obtain ⟨i, hi, rfl⟩ := List.getElem_of_mem ho
      simp only [Array.getElem_toList] at hd
      exact ⟨i, by simpa using hi, by unfold dstOf; rw [Array.getElem?_eq_getElem (by simpa using hi)]; simp [hd]⟩
    · rintro ⟨i, hi, hd⟩
      refine ⟨ops[i], by simp, ?_⟩
      have := htd.1 i (List.mem_range.2 hi)
      rw [Array.getElem?_eq_getElem hi] at this
      simp only [Bool.and_eq_true] at this
      unfold dstOf at hd
      rw [Array.getElem?_eq_getElem hi] at hd
      simp only [Option.bind_some] at hd
      cases ho : ops[i].dst with
      | none => rw [ho] at this; exact absurd this.1 (by simp)
      | some e => rw [ho] at hd; simp at hd; rw [hd]
  refine wp_region_any hm ?_
  refine grow_step ht hst (fun i hi => hop.get hi) (fun g w hBw hk hP => ?_) hn _ _ _ _ rfl hn hB (fun _ _ => rfl) (fun d hc => ?_) (fun j hj => ?_) (by simp) ?_
  · have e : actOf n g a0.defers = putAll a0 g L := by
      have h1 := actOf_of (putAll a0 g L) n (by rw [putAll_size, hn])
      rw [h1, putAll_defers]
      unfold actOf
      congr 2
      apply List.map_congr_left
      intro d hd
      rw [List.mem_range] at hd
      rw [putAll_get g L a0 d (by omega)]
      by_cases hdl : d ∈ L
      · simp [hdl]
      · have hc : (dsts ops).contains (some d) = false := by
          cases hcc : (dsts ops).contains (some d) with
          | false => rfl
          | true => exact absurd ((hmem d).1 hcc) hdl
        rw [if_neg hdl, ← hk d hd hc]
        rfl
    rw [e]
    exact hQ g w hBw hP
  · rw [List.all_eq_true] at hdn
    have := hdn _ ((hmem d).1 hc)
    simpa using this
  · rw [Array.getElem?_replicate] at hj
    split at hj <;> cases hj
  · exact Nat.le_trans (List.length_filter_le _ _) (by simp)

/-- An old cell reads the same later. -/
theorem cell_later {W w' : World} {p : Addr} {v : Value} (hb : Below W.heap.size W w') (h : W.cell? p = some v) : w'.cell? p = some v := by
  have hlt := World.block_lt_of_cell? W p h
  exact (World.cell?_of_block (hb.block _ hlt)).trans h

/-! ### Running one operation -/
theorem actOf_eval (n : Nat) (g : Nat → Value) (ds : List Deferred) (t : Nat) (h : t < n) : (actOf n g ds).eval (.tmp t) = g t := by
  simp [actOf, Act.eval, h]

theorem actOf_get (n : Nat) (g : Nat → Value) (ds : List Deferred) (t : Nat) (h : t < n) {v : Value} (hv : g t = v) : (actOf n g ds).tmps[t]? = some v := by
  subst hv; simp [actOf, h]

theorem wpOp_free {i : Nat} {o : Oper} {K : Act → World → Prop} {a : Act} {w : World} (hi : ops[i]? = some o) (hg : o.guard = none) (h : o.wp P a w K Q) : wpOp P ops Q i K a w := by
  unfold wpOp
  simp only [hi]
  have : Region.wanted o (yielded ops a.tmps) = true := by unfold Region.wanted; rw [hg]
  rw [this, if_pos rfl]
  exact .inl h

theorem yielded_actOf {n : Nat} {g : Nat → Value} {ds : List Deferred} {j d : Nat} {b : Bool} (hd : ((ops[j]?).bind (·.dst)) = some d) (hn : d < n) (hv : g d = .bool b) : yielded ops (actOf n g ds).tmps j = some b := by
  unfold yielded
  rw [hd]
  simp [actOf, hn, hv]

/-- A guarded operation whose guard lets it. -/
theorem wpOp_let {i j d n : Nat} {want : Bool} {o : Oper} {K : Act → World → Prop} {g : Nat → Value} {ds : List Deferred} {w : World} (hi : ops[i]? = some o) (hg : o.guard = some (j, want)) (hd : ((ops[j]?).bind (·.dst)) = some d) (hn : d < n) (hv : g d = .bool want)
    (h : o.wp P (actOf n g ds) w K Q) : wpOp P ops Q i K (actOf n g ds) w := by
  unfold wpOp
  simp only [hi]
  have : Region.wanted o (yielded ops (actOf n g ds).tmps) = true := by unfold Region.wanted; rw [hg]; simp [yielded_actOf hd hn hv]
  rw [this, if_pos rfl]
  exact .inl h

/-- A guarded operation whose guard does not let it. -/
theorem wpOp_bar {i j d n : Nat} {want b : Bool} {o : Oper} {K : Act → World → Prop} {g : Nat → Value} {ds : List Deferred} {w : World} (hi : ops[i]? = some o) (hg : o.guard = some (j, want)) (hd : ((ops[j]?).bind (·.dst)) = some d) (hn : d < n) (hv : g d = .bool b) (hb : b ≠ want)
    (h : K ((actOf n g ds).put o.dst undef) w) : wpOp P ops Q i K (actOf n g ds) w := by
  unfold wpOp
  simp only [hi]
  have : Region.wanted o (yielded ops (actOf n g ds).tmps) = false := by unfold Region.wanted; rw [hg]; simp [yielded_actOf hd hn hv, hb]
  rw [this]
  simpa using h
end
end Go.Proofs.Ytiaifphidcfddaa
