/-
  points.Of: a pool's points, in order.
-/
import Derived.Test.YtiaifphidcfddaaSortP
set_option linter.unusedVariables false
set_option linter.unusedSimpArgs false
namespace Go.Proofs.Ytiaifphidcfddaa
open Go.RowKit Go.Shelf

/-- 'append(out, x)': x's cells lie at block B. -/
theorem wpList_app1w {P : Program} {w : World} {ops : Array Oper} {rest : List Oper} {o : Oper} {a : Act} {Q : Exit → Act → World → Prop} {t e : TypeId} {k bytes : Nat} {z : Value} {α : Type} (E : El P t e k bytes z) (enc : α → List Value) (hk : ∀ x, (enc x).length = k) (h1 : ∀ x, ∀ u ∈ enc x, u.oneCell' = true) (hgd : o.guard = none) (s x : Operand)
    (ho : o.op = .call { callee := .builtin .append, args := #[s, x], argTypes := #[t, t] }) (base : Nat) (v : Value) (xs : List α) (y : α) (hs : a.eval s = v) (hown : Ow k enc e base w v xs) (B : Nat)
    (hx : a.eval x = .slice (some ⟨B, 0, none⟩) 1 1) (hnews : ∀ j u, (enc y)[j]? = some u → w.cell? ⟨B, j, none⟩ = some u) (hb : base ≤ w.heap.size) (hn : xs.length < 4294967296) (hby : bytes ≤ 1024)
    (hK : ∀ v' w', Ow k enc e base w' v' (xs ++ [y]) → w.grownBy w' v.ownBlock → Below base w w' → wpList P ops Q rest (a.put o.dst v') w') :
    wpList P ops Q (o :: rest) a w := by
  obtain ⟨i, hi, hz0, hz1, hz2⟩ := E.hi
  have hlen : (enc y).length = 1 * k := by rw [hk]; omega
  have hB : (xs.length + 1) * bytes ≤ 140737488355328 := by
    have : (xs.length + 1) * bytes ≤ 4294967296 * 1024 := Nat.mul_le_mul (by omega) hby
    omega
  refine wpList_append_own _ hgd s x t ho base e i z k bytes E.ht hi hz0 hz1 hz2 E.hz E.hk v xs.length (xs.flatMap enc) hs hown ⟨B, 0, none⟩ 1 1 (enc y) hx hlen (fun j u hu => ?_) (h1 y) (by unfold maxLen; omega) hB hb ?_
  · have hadd : (⟨B, 0, none⟩ : Addr).add j = ⟨B, j, none⟩ := by unfold Addr.add; split <;> simp_all
    rw [hadd]; exact hnews j u hu
  · intro v' w' h2 h3 _
    refine hK _ w' ?_ h3 ((Below.refl base w).grown h3 hb (fun j hj => (World.ownsRow.lt hown j hj).1))
    have : (xs ++ [y]).flatMap enc = xs.flatMap enc ++ enc y := by simp
    show w'.ownsRow base e k _ (xs ++ [y]).length ((xs ++ [y]).flatMap enc)
    rw [this, List.length_append]; exact h2

theorem PSorted_calls (g : Nat) (lb : Array Value) (eg : ∀ args w, (callFunc g args).run Try.prog w = .ok (.enter g args) w) (xs : List Pt) (n₀ : Nat) (w : World) (hn₀ : n₀ ≤ w.heap.size) (hlen : xs.length < 4294967296)
    (hseq : SeqStopsK Fence.wide 4 Try.prog g lb (fun x : Pt => #[ptv x]) (Kp n₀) (fun ys => ys = xs) (fun _ => True) xs.length w) :
    Calls Try.prog 79 #[.func (.func g) #[] lb, .func (.func 81) #[] #[]] w fun e w' => ∃ v, e = .returned v ∧ Ow 2 ptc 118 w.heap.size w' v (srt xs) ∧ Below w.heap.size w w' := by
  have hcon := hide (PCollect_calls g lb eg xs n₀ w hn₀ hlen hseq)
  have hl : xs.length < 4611686018427387904 := by omega
  clear hseq
  go_enter Try.func79, Try.ntmps79
  go_wp2_with (first
    | (go_at_call 94; refine hcon.out.mono ?_; rintro e w1 ⟨v, rfl, ho, hb⟩; have HO := hide ho; have HB := hide hb; clear ho hb)
    | (go_at_call 95; refine (PSort_calls _ _ _ _ HO.out hl).mono ?_; rintro e w2 ⟨rfl, ho2, hg2⟩; have HO2 := hide ho2; have HG2 := hide hg2; clear ho2 hg2))
  go_ret
  exact ⟨v, rfl, HO2.out, HB.out.trans ((Below.refl _ _).grown HG2.out HB.out.size (fun j hj => (World.ownsRow.lt HO.out j hj).1))⟩

set_option maxRecDepth 100000 in
set_option maxHeartbeats 4000000 in
theorem Of_calls (a : Option Addr) (n cap : Nat) (xs : List Bk) (w : World) (hr : Rd 2 bkc w a n xs) (hv : Vp xs) (hbig : n ≤ 65536) :
    Calls Try.prog 61 #[.slice a n cap] w fun e w' => ∃ a' cap', e = .returned (.slice a' (ofP xs).length cap') ∧ Rd 2 ptc w' a' (ofP xs).length (ofP xs) ∧ Below w.heap.size w w' ∧ (∀ q, a' = some q → w.heap.size ≤ q.block) := by
  have hb1 : Below w.heap.size w (w.alloc (.cells #[.slice a n cap] 31)) := (Below.refl _ _).alloc (Nat.le_refl _) _
  have hlen : (ptsU xs).length < 4294967296 := by have := ptsU_len xs hv; have := hr.len; omega
  have hcon0 := PSorted_calls 96 #[.pointer (some ⟨w.heap.size, 0, none⟩)] (enters_of Try.func96 (by kernel_rfl) rfl) (ptsU xs) w.heap.size _ (by simp) hlen
    (PEach_stops 4 (by omega) w.heap.size w.heap.size a n cap xs hv (w.alloc (.cells #[.slice a n cap] 31)) (by simp) (by simp) (by simp) (hr.below hb1) (fun p hp h0 => (hr.2.2.2 p hp h0).2.1))
  rw [show srt (ptsU xs) = ofP xs from rfl] at hcon0
  have hcon := hide hcon0
  have HB1 := hide hb1
  have hl2 : (ofP xs).length < 4294967296 := by unfold ofP; rw [srt_len]; exact hlen
  have HL2 := hide hl2
  clear hr hv hb1 hlen hl2 hcon0
  generalize ofP xs = ps at hcon HL2 ⊢
  obtain ⟨m, hm⟩ : ∃ m, ps.length = m := ⟨_, rfl⟩
  rw [hm] at HL2 ⊢
  have HM := hide hm
  clear hm
  go_enter Try.func61, Try.ntmps61
  go_wp2_with (first
    | (go_at_call 80; refine (PEach_calls _ _ _ _).mono ?_; rintro e w' ⟨rfl, rfl⟩)
    | (go_at_call 79; refine hcon.out.mono ?_; rintro e w1 ⟨v, rfl, ho, hb⟩; have HB := hide (below_then HB1.out (by simp) hb); obtain ⟨a1, c1, rfl, r1, _⟩ := ho.form2 ptc_len; have R1 := hide r1; clear ho hb r1))
  rw [HM.out] at R1 ⊢
  have hml := R1.out.le
  have hm32 := HL2.out
  go_wp2
  go_loopg [3, 10] m (fun gg s3 s10 wr => ∃ kk : Nat, kk ≤ m ∧ m - kk ≤ gg ∧ s10 = .int .i64 (kk : Int) ∧ Hid (Ow 2 ptc 124 w1.heap.size wr s3 (ps.take kk)) ∧ Hid (Below w1.heap.size w1 wr))
  case atStart => exact ⟨0, Nat.zero_le _, by omega, rfl, (hide Ow.nil), Below.refl _ w1⟩
  case round =>
    obtain ⟨kk, hkk, hg, rfl, OW, BW⟩ := hrel
    by_cases hlt : kk < m
    · have hltz : (kk : Int) < (m : Int) := by omega
      obtain ⟨b, off, x1, x2, rfl, hx, hbl, hc1, hc2⟩ := R1.out.at_pt kk hlt
      have hd1 : wr.cell? ⟨b, off + kk * 2, none⟩ = some (.int .u64 x1) := cell_later BW.out hc1
      have hd2 : wr.cell? ⟨b, off + kk * 2 + 1, none⟩ = some (.int .i64 x2) := cell_later BW.out hc2
      have HT := hide (show ps.take (kk + 1) = ps.take kk ++ [(x1, x2)] by rw [List.take_add_one, hx]; rfl)
      have hll : (ps.take kk).length < 4294967296 := by rw [List.length_take]; have := HL2.out; omega
      have HLL := hide hll
      have BW0 := hide (below_then HB.out HB.out.size BW.out)
      clear hx hc1 hc2 hll
      have hnew : ∀ (j : Nat) (u : Value), (ptc (x1, x2))[j]? = some u → ((wr.alloc (.cells #[.int .u64 x1, .int .i64 x2] 118)).alloc (.cells #[.int .u64 x1, .int .i64 x2] 124)).cell? ⟨wr.heap.size + 1, j, none⟩ = some u := fun j u hu => by
        have := cell_new (wr.alloc (.cells #[.int .u64 x1, .int .i64 x2] 118)) #[.int .u64 x1, .int .i64 x2] 124 j
        rw [World.size_alloc] at this
        rw [this]; simpa [ptc] using hu
      have HNEW := hide hnew
      have HBB := hide (show Below w1.heap.size w1 ((wr.alloc (.cells #[.int .u64 x1, .int .i64 x2] 118)).alloc (.cells #[.int .u64 x1, .int .i64 x2] 124)) from (BW.out.alloc BW.out.size _).alloc (by have := BW.out.size; simp; omega) _)
      clear hnew
      go_wp2_with (at_builtin; refine wpList_app1w El_po ptc ptc_len ptc_one rfl _ _ rfl w1.heap.size u3 (ps.take kk) (x1, x2) rfl ((OW.out.alloc _).alloc _) (wr.heap.size + 1) rfl HNEW.out HBB.out.size HLL.out (by omega) ?_; intro v' w3 q1 q2 q3; have H1 := hide q1; have H3 := hide q3; clear q1 q2 q3)
      have BW1 := hide (HBB.out.trans H3.out)
      go_roundg (m - (kk + 1))
      case measure => omega
      case rel => exact ⟨kk + 1, by omega, by omega, by go_num, (hide (by rw [HT.out]; exact H1.out)), BW1⟩
    · have hltz : ¬ (kk : Int) < (m : Int) := by omega
      obtain rfl : kk = m := by omega
      have ho := OW.out
      rw [← HM.out, List.take_length] at ho
      obtain ⟨a3, c3, rfl, r3, hq3⟩ := ho.form ptc_len
      have HQ3 := hide (show ∀ q, a3 = some q → w.heap.size ≤ q.block from fun q hq => Nat.le_trans HB.out.size (hq3 q hq).1)
      clear hq3
      rw [HM.out] at r3 ⊢
      have R3 := hide r3
      have BW0 := hide (below_then HB.out HB.out.size BW.out)
      clear ho r3 OW
      go_wp2
      go_ret
      exact ⟨_, ⟨_, rfl⟩, R3.out, BW0.out, HQ3.out⟩
end Go.Proofs.Ytiaifphidcfddaa
