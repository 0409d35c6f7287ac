/-
  The reference's points of a pool, and where a hash goes to.
-/
import Derived.Test.YtiaifphidcfddaaRSort
import Derived.Deep.AppendLies
set_option linter.unusedVariables false
set_option linter.unusedSimpArgs false
namespace Go.Proofs.Ytiaifphidcfddaa
open Go.RowKit Go.Shelf

theorem cell_new (W : World) (cs : Array Value) (t : TypeId) (j : Nat) : (W.alloc (.cells cs t)).cell? ⟨W.heap.size, j, none⟩ = cs[j]? := by
  simp only [World.cell?, World.alloc, Array.getElem?_push_size]
  rfl

theorem step_app1 {P : Program} {w : World} {ops : Array Oper} {o : Oper} {a : Act} {K : Act → World → Prop} {Q : Exit → Act → World → Prop} {F : Prop} {t e : TypeId} {k bytes : Nat} {z : Value} {α : Type} (E : El P t e k bytes z) (enc : α → List Value) (hk : ∀ x, (enc x).length = k) (h1 : ∀ x, ∀ u ∈ enc x, u.oneCell' = true) (hgd : o.guard = none) (s x : Operand)
    (ho : o.op = .call { callee := .builtin .append, args := #[s, x], argTypes := #[t, t] }) (base : Nat) (v : Value) (xs : List α) (y : α) (hs : a.eval s = v) (hown : Ow k enc e base w v xs) (B : Nat)
    (hx : a.eval x = .slice (some ⟨B, 0, none⟩) 1 1) (hnews : ∀ j u, (enc y)[j]? = some u → w.cell? ⟨B, j, none⟩ = some u) (hb : base ≤ w.heap.size) (hn : xs.length < 4294967296) (hby : bytes ≤ 1024)
    (hK : ∀ v' w', Ow k enc e base w' v' (xs ++ [y]) → w.grownBy w' v.ownBlock → Below base w w' → K (a.put o.dst v') w') :
    if Region.wanted o (yielded ops a.tmps) = true then Oper.wp P o a w K Q else F := by
  obtain ⟨i, hi, hz0, hz1, hz2⟩ := E.hi
  have hlen : (enc y).length = 1 * k := by rw [hk]; omega
  have hB : (xs.length + 1) * bytes ≤ 140737488355328 := by
    have : (xs.length + 1) * bytes ≤ 4294967296 * 1024 := Nat.mul_le_mul (by omega) hby
    omega
  refine step_append_lies w hgd s x t ho base e i z k bytes E.ht hi hz0 hz1 hz2 E.hz E.hk v xs.length (xs.flatMap enc) hs hown ⟨B, 0, none⟩ 1 1 (enc y) hx hlen (fun j u hu => ?_) (h1 y) (by omega) (by unfold maxLen; omega) hB hb w.heap.size rfl ?_
  · have hadd : (⟨B, 0, none⟩ : Addr).add j = ⟨B, j, none⟩ := by unfold Addr.add; split <;> simp_all
    rw [hadd]; exact hnews j u hu
  · intro g cap w' h2 h3 h4 h5
    refine hK _ w' ?_ h3 ((Below.refl base w).grown h3 hb (fun j hj => (World.ownsRow.lt hown j hj).1))
    have : (xs ++ [y]).flatMap enc = xs.flatMap enc ++ enc y := by simp
    show w'.ownsRow base e k _ (xs ++ [y]).length ((xs ++ [y]).flatMap enc)
    rw [this, List.length_append]; exact h2

def ofP (xs : List Bk) : List Pt := srt (ptsU xs)

theorem ptsU_len (xs : List Bk) (hv : Vp xs) : (ptsU xs).length ≤ 128 * xs.length := by
  have key : ∀ l : List Bk, (∀ x ∈ l, x.2 ≤ 16) → (ptsU l).length ≤ 128 * l.length := by
    intro l
    induction l with
    | nil => intro _; simp [ptsU]
    | cons y ys ih =>
      intro h
      have h1 := ih (fun x hx => h x (List.mem_cons_of_mem _ hx))
      have h2 := h y List.mem_cons_self
      have e : (ptsU (y :: ys)).length = (ptsB y).length + (ptsU ys).length := by simp [ptsU]
      have e2 : (ptsB y).length = 8 * y.2.toNat := by simp [ptsB]
      rw [e, e2, List.length_cons]; omega
  refine key xs (fun x hx => ?_)
  obtain ⟨j, hj⟩ := List.getElem?_of_mem hx
  obtain ⟨i, m, rfl, _, _, _, hm⟩ := hv j x hj
  simp only; omega

attribute [local go_sem ↓] Go.wp_at_zero Go.wp_at_succ

set_option maxRecDepth 100000 in
set_option maxHeartbeats 4000000 in
theorem ROf_calls (a : Option Addr) (n cap : Nat) (xs : List Bk) (w : World) (hr : Rd 2 bkc w a n xs) (hv : Vp xs) (hbig : n ≤ 65536) :
    Calls Try.prog 76 #[.slice a n cap] w fun e w' => ∃ a' cap', e = .returned (.slice a' (ofP xs).length cap') ∧ Rd 2 ptc w' a' (ofP xs).length (ofP xs) ∧ Below w.heap.size w w' := by
  have HL := hide hr.len
  have HR := hide hr
  have HV := hide hv
  have HU := hide (ptsU_len xs hv)
  clear hr hv
  go_enter Try.func76, Try.ntmps76
  go_wp2
  go_loopg [3, 4] n (fun gg s3 s4 wr => ∃ (i : Nat), i ≤ n ∧ n - i ≤ gg ∧ s4 = .int .i64 (i : Int) ∧ Hid (Ow 2 ptc 124 w.heap.size wr s3 (ptsU (xs.take i))) ∧ Hid (Below w.heap.size w wr))
  case atStart => exact ⟨0, by omega, by omega, rfl, (hide (by simpa [ptsU] using Ow.nil)), Below.refl _ w⟩
  case round =>
    obtain ⟨i, hi, hg, rfl, OW, BW⟩ := hrel
    by_cases h1 : i < n
    · obtain ⟨b1, o1, x1, x2, rfl, hx, hbl1, hc1, hc2⟩ := HR.out.at_bk i h1
      obtain ⟨id, m, hxe, hi1, hi2, hm1, hm2⟩ := HV.out i _ hx
      obtain ⟨rfl, rfl⟩ := Prod.ext_iff.1 hxe
      simp only at hc1 hc2
      have HX := hide hx
      clear hx hxe
      have hz1 : (i : Int) < (n : Int) := by omega
      have hm16 : ¬ (16 : Int) < (m : Int) := by omega
      obtain ⟨wo, rfl⟩ : ∃ wo : World, wo = wr := ⟨_, rfl⟩
      go_wp2
      go_loopg [3, 5] (8 * m) (fun gg s3 s5 wr => ∃ (j : Nat), j ≤ 8 * m ∧ 8 * m - j ≤ gg ∧ s5 = .int .i64 (j : Int) ∧ Hid (Ow 2 ptc 124 w.heap.size wr s3 (ptsU (xs.take i) ++ (List.range j).map (ptB ((id : Int), (m : Int))))) ∧ Hid (Below w.heap.size w wr))
      case atStart => exact ⟨0, by omega, by omega, rfl, (hide (by simpa using OW.out)), BW⟩
      case round =>
        obtain ⟨j, hj, hgj, rfl, OWj, BWj⟩ := hrel
        have ha1 : wr.cell? ⟨b1, o1 + i * 2, none⟩ = some (.int .i64 (id : Int)) := (BWj.out.cell (p := ⟨b1, o1 + i * 2, none⟩) hbl1).trans hc1
        have ha2 : wr.cell? ⟨b1, o1 + i * 2 + 1, none⟩ = some (.int .i64 (m : Int)) := (BWj.out.cell (p := ⟨b1, o1 + i * 2 + 1, none⟩) hbl1).trans hc2
        by_cases h2 : j < 8 * m
        · have hz2 : (j : Int) < 8 * (m : Int) := by omega
          have i0 : (0 : Int) ≤ (i : Int) := by omega
          have HHash := hide (RHash_calls id j (by omega) (by omega))
          have HLT := hide (ptsU_lt xs i j _ HX.out (by simpa using h2))
          have hL1 : (ptsU (xs.take i) ++ (List.range j).map (ptB ((id : Int), (m : Int)))).length < 4294967296 := by have := HLT.out; have := HU.out; have := HL.out; omega
          have HL1 := hide hL1
          clear hL1
          go_wp2
          go_region_held3 (fun w' => w'.cell? ⟨b1, o1 + i * 2, none⟩ = some (.int .i64 (id : Int))) (first | go_keep | (exact (BW4.out.cell (p := ⟨b1, o1 + i * 2, none⟩) hbl1).trans hc1))
            (first
              | (refine step_app1 El_po ptc ptc_len ptc_one (by rfl) _ _ (by rfl) w.heap.size _ _ (ptB ((id : Int), (m : Int)) j) (by rfl) (OW3.out.alloc _) _ (by rfl) (fun p u hu => ?_) ?_ HL1.out (by omega) ?_; (rw [cell_new]; simpa [ptc, ptB] using hu); (have := BW3.out.size; simp; omega); intro v' w4 q1 q2 q3; have OW4 := hide q1; have BW4 := hide ((BW3.out.alloc BW3.out.size _).trans q3); clear q1 q2 q3)
              | (go_at_call 91; refine (HHash.out _).mono ?_; rintro e w3 ⟨rfl, hb3⟩; have hb3' : Below wr.heap.size wr w3 := ((Below.refl _ _).drew).trans hb3; have OW3 := hide (OWj.out.below hb3'); have BW3 := hide (below_then BWj.out BWj.out.size hb3'); have hcc := cell_later hb3' ha1; clear hb3 hb3'))
          go_wp2
          go_roundg (8 * m - (j + 1))
          case measure => omega
          case rel => exact ⟨j + 1, by omega, by omega, by go_num, (hide (by rw [ptsB_snoc, ← List.append_assoc]; exact OW4.out)), BW4⟩
        · have hz2 : ¬ (j : Int) < 8 * (m : Int) := by omega
          obtain rfl : j = 8 * m := by omega
          have HF := hide (show Ow 2 ptc 124 w.heap.size wr u3 (ptsU (xs.take (i + 1))) by rw [ptsU_snoc xs i _ HX.out]; simpa [ptsB] using OWj.out)
          go_wp2
          go_roundg (n - (i + 1))
          case measure => omega
          case rel => exact ⟨i + 1, by omega, by omega, by go_num, HF, BWj⟩
    · have hz1 : ¬ (i : Int) < (n : Int) := by omega
      obtain rfl : i = n := by omega
      have ho := OW.out
      rw [HL.out, List.take_length] at ho
      obtain ⟨a3, c3, rfl, r3, hc3, hm3⟩ := ho.form2 ptc_len
      have R3 := hide r3
      have HS := hide (RSort_calls (ptsU xs).length a3 (ptsU xs).length c3 (ptsU xs) wr (Nat.le_refl _) r3 hc3 hm3 (by have := HU.out; have := HL.out; omega))
      have hlen := srt_len (ptsU xs)
      have HLEN := hide hlen
      clear r3 hc3 hm3 ho OW hlen
      generalize (ptsU xs).length = q at HS HLEN ⊢
      go_wp2_with (go_at_call 92; refine HS.out.mono ?_; rintro e w3 ⟨a4, c4, rfl, r4, hc4, hm4, hb4⟩; have R4 := hide r4; have HB4 := hide hb4; clear r4 hb4 hc4 hm4)
      go_ret
      refine ⟨a4, c4, ?_, ?_, below_then BW.out BW.out.size HB4.out⟩
      · show _ = Ending.returned (Value.slice a4 (srt (ptsU xs)).length c4)
        rw [HLEN.out]; rfl
      · show Rd 2 ptc w3 a4 (srt (ptsU xs)).length (srt (ptsU xs))
        rw [HLEN.out]; exact R4.out
end Go.Proofs.Ytiaifphidcfddaa
