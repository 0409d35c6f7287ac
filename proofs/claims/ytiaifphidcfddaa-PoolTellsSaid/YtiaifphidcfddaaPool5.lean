/-
  Contracts: slices.DeleteFunc at Backend (at the predicate 'its id is'), pool.Without.
-/
import Derived.Test.YtiaifphidcfddaaPool4
set_option linter.unusedVariables false
set_option linter.unusedSimpArgs false
namespace Go.Proofs.Ytiaifphidcfddaa
open Go.RowKit Go.Shelf Go.Maps

/-- 'clear(s[i:])' of a row of the call's own; then 's[:i]'. -/
theorem run_clear_own {P : Program} {w : World} {t e : TypeId} {k bytes : Nat} {z : Value} (E : El P t e k bytes z) (hzv : ∀ w, (zeroValue e).run P w = .ok z w) (hz1 : ∀ u ∈ z.cells, u.oneCell' = true)
    (base g n cap : Nat) (xs : List Value) (hown : w.ownsRow base e k (.slice (some ⟨g, 0, none⟩) n cap) n xs) (i : Nat) (hi : i < n) (c : Nat) :
    ∃ w', (∀ ty, (Builtin.clear_ #[t] ty #[.slice (some ⟨g, i * k, none⟩) (n - i) c]).run P w = .ok (.tuple #[]) w') ∧ w'.ownsRow base e k (.slice (some ⟨g, 0, none⟩) i cap) i (xs.take (i * k)) ∧ w.grownBy w' (some g) := by
  rcases hown.2 with ⟨h', _⟩ | ⟨g', cap', cur, h', hb, hg, hnc, hcm, hcs, htake⟩
  · simp at h'
  · simp only [Value.slice.injEq, Option.some.injEq, Addr.mk.injEq, and_true, true_and] at h'
    obtain ⟨rfl, rfl⟩ := h'
    have hzs : (Builtin.zeroCells z.cells (n - i)).size = (n - i) * k := by rw [size_zeroCells, E.hz]
    have hle : i * k + (n - i) * k ≤ cap * k := by rw [← Nat.add_mul]; exact Nat.mul_le_mul_right _ (by omega)
    have hst := run_storeCells_at P g (i * k) e (Builtin.zeroCells z.cells (n - i)).toList 0 cur w hg (by rw [Array.length_toList, hzs]; omega) (by
      intro v hv
      simp only [Builtin.zeroCells, Array.toList_map, List.mem_map] at hv
      obtain ⟨j, _, rfl⟩ := hv
      have hj : j % z.cells.size < z.cells.size := Nat.mod_lt _ (by rw [E.hz]; exact E.hk)
      rw [getElem!_pos z.cells _ hj]
      exact hz1 _ (Array.getElem_mem _))
    simp only [Nat.add_zero] at hst
    have hrun : ∀ ty, (Builtin.clear_ #[t] ty #[.slice (some ⟨g, i * k, none⟩) (n - i) c]).run P w = .ok (.tuple #[]) (w.setRow g (cur.toList.take (i * k) ++ (Builtin.zeroCells z.cells (n - i)).toList ++ cur.toList.drop (i * k + (Builtin.zeroCells z.cells (n - i)).toList.length)).toArray) := by
      intro ty
      obtain ⟨m, hm⟩ : ∃ m, n - i = m + 1 := ⟨n - i - 1, by omega⟩
      rw [hm] at hst ⊢
      simp [Builtin.clear_, run_underlying E.ht, hzv, hst]
    refine ⟨_, hrun, ?_, ⟨rfl, rfl, rfl, by simp [World.setRow], fun j _ hj => setRow_other w g j _ (fun e => hj (by rw [e]))⟩⟩
    have hl : i * k ≤ cur.toList.length := by rw [Array.length_toList, hcs]; omega
    refine ⟨?_, .inr ⟨g, cap, _, rfl, hb, setRow_heap w g cur _ e _ hg, by omega, hcm, ?_, ?_⟩⟩
    · rw [List.length_take, hown.1]
      exact Nat.min_eq_left (Nat.mul_le_mul_right _ (by omega))
    · simp only [List.size_toArray, List.length_append, List.length_take, List.length_drop, Array.length_toList, hzs, hcs]
      omega
    · simp only [List.append_assoc]
      rw [List.take_append_of_le_length (by rw [List.length_take]; omega), ← htake, List.take_take, List.take_take]
      have hik : i * k ≤ n * k := Nat.mul_le_mul_right _ (by omega)
      congr 1
      omega

def without (xs : List Bk) (id : Int) : List Bk := xs.filter (fun x => !(x.1 == id))

theorem zero_bk (w : World) : (zeroValue 56).run Try.prog w = .ok (.agg #[.int .i64 0, .int .i64 0]) w := by kernel_rfl

theorem zero_bk1 : ∀ u ∈ (Value.agg #[.int .i64 0, .int .i64 0]).cells, u.oneCell' = true := by intro u hu; simp [Value.cells] at hu; subst hu; rfl

theorem filter_step (xs : List Bk) (p : Bk → Bool) (j : Nat) (x : Bk) (h : xs[j]? = some x) : (xs.take (j + 1)).filter p = (xs.take j).filter p ++ (if p x then [x] else []) := by
  rw [List.take_add_one, h, List.filter_append]
  simp only [Option.toList, List.filter_cons, List.filter_nil]

set_option maxRecDepth 100000 in
set_option maxHeartbeats 2000000 in
theorem DeleteFunc_calls (v0 : Value) (xs : List Bk) (id : Int) (B base : Nat) (w : World) (ho : Ow 2 bkc 56 base w v0 xs) (hc : w.cell? ⟨B, 0, none⟩ = some (.int .i64 id)) (hB : v0.ownBlock ≠ some B) (hbase : base ≤ w.heap.size) (hbig : xs.length < 4294967296) :
    Calls Try.prog 69 #[v0, .func (.func 82) #[] #[.pointer (some ⟨B, 0, none⟩)]] w fun e w' => ∃ v, e = .returned v ∧ Ow 2 bkc 56 base w' v (without xs id) ∧ Below base w w' := by
  have eg : ∀ args w, (callFunc 82 args).run Try.prog w = .ok (.enter 82 args) w := enters_of Try.func82 (by kernel_rfl) rfl
  have hBlt : B < w.heap.size := World.block_lt_of_cell? w _ hc
  obtain ⟨a, cap, hv, hr, hbs⟩ := ho.form bkc_len
  have hcon := hide (IndexFunc_bk a xs.length cap xs 82 #[.pointer (some ⟨B, 0, none⟩)] (fun x : Bk => x.1 == id) w hr eg
    (fun W x hW => named1_calls id B W x ((hW.cell (p := ⟨B, 0, none⟩) hBlt).trans hc)))
  subst hv
  have HO := hide ho
  have HR := hide hr
  have HBS := hide hbs
  clear ho hr hbs
  go_enter Try.func69, Try.ntmps69
  go_wp2_with fail
  refine hcon.out.mono ?_
  rintro e w1 ⟨rfl, hb1⟩
  have hc1 := hide ((hb1.cell (p := ⟨B, 0, none⟩) hBlt).trans hc)
  clear hcon hc
  have hff : idx (fun x : Bk => x.1 == id) xs = (match xs.findIdx? (fun x : Bk => x.1 == id) with | some i => (i : Int) | none => -1) := rfl
  cases hidx : xs.findIdx? (fun x : Bk => x.1 == id) with
  | none =>
    rw [hidx] at hff
    rw [hff]
    have hX := hide (show without xs id = xs by
      unfold without
      rw [List.filter_eq_self]
      intro x hx
      rw [List.findIdx?_eq_none_iff] at hidx
      simp [hidx x hx])
    clear hidx hff
    have H1 := hide hb1
    clear hb1
    go_wp2
    go_ret
    exact ⟨_, rfl, by rw [hX.out]; exact HO.out.below H1.out, H1.out.mono hbase⟩
  | some i0 =>
    rw [hidx] at hff
    rw [hff]
    obtain ⟨hi0, hp0, hbef⟩ := List.findIdx?_eq_some_iff_getElem.1 hidx
    clear hidx hff
    obtain ⟨g, off, x1, x2, ha, hx, hg, hd1, hd2⟩ := HR.out.at_bk i0 hi0
    have hoff := (HBS.out _ ha).2.1
    have hgb := (HBS.out _ ha).1
    simp only at hoff hgb
    subst hoff
    subst ha
    have hgB : g ≠ B := fun e => hB (by rw [e]; rfl)
    have hne : ((i0 : Int) == -1) = false := beq_eq_false_iff_ne.2 (by omega)
    have hxl : (xs.length : Int) ≤ 9223372036854775807 := HR.out.le
    have hstart := hide (show (xs.take (i0 + 1)).filter (fun x => !(x.1 == id)) = xs.take i0 by
      rw [filter_step xs _ i0 xs[i0] (List.getElem?_eq_getElem hi0)]
      have : (xs.take i0).filter (fun x => !(x.1 == id)) = xs.take i0 := by
        rw [List.filter_eq_self]
        intro x hx
        obtain ⟨j, hj, rfl⟩ := List.getElem_of_mem hx
        rw [List.length_take] at hj
        have := hbef j (by omega)
        simp only [List.getElem_take]
        simpa using this
      rw [this]
      simp only [hp0, Bool.not_true, Bool.false_eq_true, if_false, List.append_nil])
    have HO1 := hide (HO.out.below hb1)
    have HB1 := hide hb1
    have hs1 := hb1.size
    clear hp0 hbef hx hd1 hd2 HR hb1
    go_wp2
    go_loopg [5, 6, 7] xs.length (fun gg s5 s6 _ wr => ∃ (i j : Nat) (ys : List Bk), i < j ∧ j ≤ xs.length ∧ xs.length - j ≤ gg ∧ s5 = .int .i64 i ∧ s6 = .int .i64 j ∧ w1.heap.size ≤ wr.heap.size ∧ Hid (w1.grownBy wr (some g)) ∧ Hid (Ow 2 bkc 56 base wr (.slice (some ⟨g, 0, none⟩) xs.length cap) ys) ∧ Hid (ys.length = xs.length) ∧ Hid (ys.take i = (xs.take j).filter (fun x => !(x.1 == id))) ∧ Hid (∀ m, j ≤ m → ys[m]? = xs[m]?))
    case atStart => exact ⟨i0, i0 + 1, xs, by omega, by omega, by omega, rfl, by go_num, Nat.le_refl _, World.grownBy.refl _ _, HO1.out, rfl, hstart.out.symm, fun m _ => rfl⟩
    case round =>
      obtain ⟨i, j, ys, hij, hj, hgg, rfl, rfl, hsz, GB, OW, YL, YT, YD⟩ := hrel
      by_cases hlt : j < xs.length
      · have hltz : (j : Int) < (xs.length : Int) := by omega
        have hil : (i : Int) < (xs.length : Int) := by omega
        obtain ⟨a', cap', hv', hr', _⟩ := OW.out.form bkc_len
        have hylt : j < ys.length := by have := YL.out; omega
        obtain ⟨b', off', x1, x2, ha', hx', hb', hd1, hd2⟩ := hr'.at_bk j hylt
        simp only [Value.slice.injEq] at hv'
        obtain ⟨rfl, hlen_, rfl⟩ := hv'
        clear hlen_
        cases ha'
        obtain ⟨b'', off'', z1, z2, ha'', hz', hb'', he1, he2⟩ := hr'.at_bk i (by have := YL.out; omega)
        cases ha''
        clear hr'
        rw [Nat.zero_add] at hd1 hd2 he1 he2
        have HX := hide hx'
        clear hx' hz'
        have hcB := hc1.out
        have hcB2 := GB.out.cell hcB (fun e => hgB (by cases e; rfl))
        have hcall := named1_calls id B (wr.alloc (.cells #[.int .i64 x1, .int .i64 x2] 56)) (x1, x2) (cell_old _ hcB2)
        clear hcB hcB2
        have hxs : Hid (xs[j]? = some (x1, x2)) := by have := YD.out j (Nat.le_refl _); rw [HX.out] at this; exact this.symm
        have hfs := hide (filter_step xs (fun x => !(x.1 == id)) j _ hxs.out)
        cases hq : x1 == id with
        | true =>
          rw [hq] at hcall
          have HQ := hide hq
          clear hq
          go_wp2_with (go_at_call 82; refine hcall.mono ?_; rintro e w' ⟨rfl, hb'⟩; have hb' := hide hb')
          go_roundg (xs.length - (j + 1))
          case measure => omega
          case rel =>
            have hGB := (GB.out.andThen (World.grownBy_alloc wr _ none) (fun _ h => by cases h)).andThen (grownBy_of_below hb'.out none) (fun _ h => by cases h)
            refine ⟨i, j + 1, ys, by omega, by omega, by omega, rfl, by go_num, by have := hb'.out.size; simp at this; omega, hGB, (OW.out.alloc _).below hb'.out, YL.out, ?_, fun m hm => YD.out m (by omega)⟩
            show ys.take i = _
            rw [hfs.out, HQ.out, YT.out]
            simp
        | false =>
          rw [hq] at hcall
          have HQ := hide hq
          clear hq
          have HYW0 := hide (show wr.ownsRow base 56 2 (.slice (some ⟨g, 0, none⟩) xs.length cap) xs.length (ys.flatMap bkc) by have := OW.out; unfold Ow at this; rw [YL.out] at this; exact this)
          have hf1 := World.ownsRow.frozenAt HYW0.out (i * 2)
          have hf2 := World.ownsRow.frozenAt HYW0.out (i * 2 + 1)
          go_wp2_with fail
          refine hcall.mono ?_
          rintro e w' ⟨rfl, hb'⟩
          have hk1 := (hb'.cell (p := ⟨g, i * 2, none⟩) (by simp; omega)).trans (cell_old _ he1)
          have hk2 := (hb'.cell (p := ⟨g, i * 2 + 1, none⟩) (by simp; omega)).trans (cell_old _ he2)
          have HOW := hide ((OW.out.alloc (.cells #[.int .i64 x1, .int .i64 x2] 56)).below hb')
          have HYW1 := hide (show w'.ownsRow base 56 2 (.slice (some ⟨g, 0, none⟩) xs.length cap) xs.length (ys.flatMap bkc) by have := HOW.out; unfold Ow at this; rw [YL.out] at this; exact this)
          have hk3 := World.ownsRow.frozenAt HYW1.out (i * 2)
          have hk4 := World.ownsRow.frozenAt HYW1.out (i * 2 + 1)
          have hm1 := (hb'.cell (p := ⟨wr.heap.size, 0, none⟩) (by simp)).trans (show _ = some (.int .i64 x1) by simp)
          have hm2 := (hb'.cell (p := ⟨wr.heap.size, 1, none⟩) (by simp)).trans (show _ = some (.int .i64 x2) by simp)
          have hsz' := hb'.size
          rw [World.size_alloc] at hsz'
          have HB' := hide hb'
          clear hb' hf1 hf2 he1 he2 hd1 hd2
          go_wp2
          obtain ⟨ho3, hg3⟩ := HOW.out.set_bk i (by have := YL.out; omega) x1 x2
          have HO3 := hide ho3
          have HG3 := hide hg3
          clear ho3 hg3
          go_roundg (xs.length - (j + 1))
          case measure => omega
          case rel =>
            have hGB := ((GB.out.andThen (World.grownBy_alloc wr _ none) (fun _ h => by cases h)).andThen (grownBy_of_below HB'.out none) (fun _ h => by cases h)).andThen HG3.out (fun j hj => .inr hj)
            refine ⟨i + 1, j + 1, ys.set i (x1, x2), by omega, by omega, by omega, by go_num, by go_num, by simp; omega, hGB, HO3.out, by rw [List.length_set]; exact YL.out, ?_, fun m hm => ?_⟩
            · show (ys.set i (x1, x2)).take (i + 1) = _
              rw [hfs.out, HQ.out, ← YT.out, List.take_add_one, List.take_set_of_le (Nat.le_refl _), List.getElem?_set_self (by have := YL.out; omega)]
              rfl
            · rw [List.getElem?_set_ne (by omega)]
              exact YD.out m (by omega)
      · have hltz : ¬ (j : Int) < (xs.length : Int) := by omega
        have : j = xs.length := by omega
        subst this
        have hcapn : xs.length ≤ cap := by
          obtain ⟨_, h⟩ := OW.out
          rcases h with ⟨h, _⟩ | ⟨g', cap', cur, h, _, _, h', _⟩
          · cases h
          · simp only [Value.slice.injEq] at h
            obtain ⟨_, h1, rfl⟩ := h
            omega
        have hci : ¬ cap = i := by omega
        have hci2 : (i : Int) ≤ (xs.length : Int) := by omega
        have hci3 : (i : Int) ≤ (cap : Int) := by omega
        have HYW := hide (show wr.ownsRow base 56 2 (.slice (some ⟨g, 0, none⟩) xs.length cap) xs.length (ys.flatMap bkc) by have := OW.out; unfold Ow at this; rw [YL.out] at this; exact this)
        obtain ⟨w', hrun, ho4, hg4⟩ := run_clear_own El_bk zero_bk zero_bk1 base g xs.length cap (ys.flatMap bkc) HYW.out i (by omega) (cap - i)
        have HO4 := hide ho4
        have HG4 := hide hg4
        clear ho4 hg4
        go_wp2
        go_ret
        refine ⟨_, rfl, ?_, ?_⟩
        · have ht : without xs id = ys.take i := by rw [YT.out, List.take_length]; rfl
          rw [ht]
          show World.ownsRow _ base _ 2 _ (ys.take i).length ((ys.take i).flatMap bkc)
          have e1 : (ys.take i).length = i := by rw [List.length_take]; have := YL.out; omega
          have e2 := flatMap_take bkc_len ys i (by have := YL.out; omega)
          rw [e1, ← e2]
          exact HO4.out
        · have b1 := (HB1.out.mono hbase).grown GB.out (by omega) (fun k hk => by cases hk; exact hgb)
          exact b1.grown HG4.out (by omega) (fun k hk => by cases hk; exact hgb)

theorem Without_calls (a : Option Addr) (n cap : Nat) (xs : List Bk) (id : Int) (w : World) (hr : Rd 2 bkc w a n xs) (hbig : n < 4294967296) :
    Calls Try.prog 38 #[.slice a n cap, .int .i64 id] w fun e w' => ∃ v, e = .returned v ∧ Ow 2 bkc 56 w.heap.size w' v (without xs id) ∧ Below w.heap.size w w' := by
  have HC := hide (Clone_calls a n cap xs _ hr (by omega))
  have HL := hide hr.len
  clear hr
  go_enter Try.func38, Try.ntmps38
  go_wp2_with fail
  refine HC.out.mono ?_
  rintro e w1 ⟨v, rfl, ho1, hb1, _⟩
  have hne : v.ownBlock ≠ some w1.heap.size := fun h => by have := (World.ownsRow.lt ho1 _ h).2; omega
  have HD := hide (DeleteFunc_calls v xs id w1.heap.size w.heap.size (w1.alloc (.cells #[.int .i64 id] 3)) (ho1.alloc _) (by simp) hne (by have := hb1.size; simp; omega) (by have := HL.out; omega))
  have HB1 := hide hb1
  have hs1 := hb1.size
  clear ho1 hb1 HC hne
  go_wp2_with (first | (go_at_call 63; refine (named_calls _ _).mono ?_; rintro e w' ⟨rfl, rfl⟩) | (go_at_call 69; refine HD.out.mono ?_; rintro e w' ⟨v2, rfl, ho2, hb2⟩; have HO2 := hide ho2; have HB2 := hide hb2; clear ho2 hb2))
  go_ret
  exact ⟨_, rfl, HO2.out, (HB1.out.alloc hs1 _).trans HB2.out⟩
end Go.Proofs.Ytiaifphidcfddaa
