/-
  The reference's put and Sorted of layer 8.
-/
import Derived.Test.YtiaifphidcfddaaRef8b
import Derived.Test.YtiaifphidcfddaaStabP
set_option linter.unusedVariables false
set_option linter.unusedSimpArgs false
namespace Go.Proofs.Ytiaifphidcfddaa
open Go.RowKit Go.Shelf

def putB : List Bk → Bk → List Bk
  | [], b => [b]
  | x :: xs, b => if b.1 < x.1 then b :: x :: xs else x :: putB xs b

theorem putB_len (b : Bk) : ∀ xs : List Bk, (putB xs b).length = xs.length + 1
  | [] => rfl
  | x :: xs => by unfold putB; split <;> simp [putB_len b xs]

theorem putB_facts (b : Bk) : ∀ {xs : List Bk}, Srt xs → Srt (putB xs b) ∧ StEq (xs ++ [b]) (putB xs b)
  | [], _ => ⟨List.pairwise_singleton _ _, StEq.refl _⟩
  | x :: xs, h => by
    have h' := List.pairwise_cons.1 h
    unfold putB
    by_cases hb : b.1 < x.1
    · rw [if_pos hb]
      have hall : ∀ y ∈ x :: xs, b.1 < y.1 := fun y hy => by
        rcases List.mem_cons.1 hy with e | e
        · rw [e]; exact hb
        · have := h'.1 y e; omega
      refine ⟨List.pairwise_cons.2 ⟨fun y hy => by have := hall y hy; omega, h⟩, ?_⟩
      have := StEq.rot (u := x :: xs) (v := [b]) (fun y hy z hz => by simp at hz; subst hz; have := hall y hy; omega)
      simpa using this
    · rw [if_neg hb]
      obtain ⟨g1, g2⟩ := putB_facts b h'.2
      refine ⟨List.pairwise_cons.2 ⟨fun y hy => ?_, g1⟩, ?_⟩
      · have := g2.1.mem_iff.2 hy
        rcases List.mem_append.1 this with e | e
        · exact h'.1 y e
        · simp at e; subst e; omega
      · have := (StEq.refl [x]).append g2
        simpa using this

set_option maxRecDepth 100000 in
set_option maxHeartbeats 4000000 in
theorem RPut_calls (a : Option Addr) (n cap : Nat) (xs : List Bk) (b1 b2 : Int) (w : World) (hr : Rd 2 bkc w a n xs) (hbig : n < 4294967293) :
    Calls Try.prog 68 #[.slice a n cap, .agg #[.int .i64 b1, .int .i64 b2]] w fun e w' => ∃ v, e = .returned v ∧ Ow 2 bkc 56 w.heap.size w' v (putB xs (b1, b2)) ∧ Below w.heap.size w w' := by
  have hn := hr.le
  have HL := hide hr.len
  have HR := hide hr
  have hb0 : Below w.heap.size w (w.alloc (.cells #[.int .i64 b1, .int .i64 b2] 56)) := (Below.refl _ _).alloc (Nat.le_refl _) _
  have HB0 := hide hb0
  clear hr hb0
  go_enter Try.func68, Try.ntmps68
  go_wp2
  have HF := hide (show (w.alloc (.cells #[.int .i64 b1, .int .i64 b2] 56)).cell? ⟨w.heap.size, 0, none⟩ = some (.int .i64 b1) ∧ (w.alloc (.cells #[.int .i64 b1, .int .i64 b2] 56)).cell? ⟨w.heap.size, 1, none⟩ = some (.int .i64 b2) from ⟨by simp, by simp⟩)
  go_loopg [5, 6, 7] n (fun gg s5 s6 s7 wr => ∃ (kk : Nat) (v : Value) (q : Bool) (out : List Bk), kk ≤ n ∧ n - kk ≤ gg ∧ s7 = .int .i64 kk ∧ v = s5 ∧ s6 = .bool q ∧ Hid (Below w.heap.size w wr) ∧ Hid (wr.cell? ⟨w.heap.size, 0, none⟩ = some (.int .i64 b1) ∧ wr.cell? ⟨w.heap.size, 1, none⟩ = some (.int .i64 b2)) ∧ Hid (Ow 2 bkc 56 (w.heap.size + 1) wr v out) ∧ Hid (w.heap.size + 1 ≤ wr.heap.size) ∧ Hid ((q = false ∧ putB xs (b1, b2) = out ++ putB (xs.drop kk) (b1, b2)) ∨ (q = true ∧ putB xs (b1, b2) = out ++ xs.drop kk)))
  case atStart => exact ⟨0, _, false, [], Nat.zero_le _, by omega, rfl, rfl, rfl, HB0, HF, (hide Ow.nil), (hide (by simp)), (hide (.inl ⟨rfl, by simp⟩))⟩
  case round =>
    obtain ⟨kk, v, q, out, hkk, hg, rfl, rfl, rfl, BW, BC, OW, SZ, PQ⟩ := hrel
    have hol : out.length ≤ n + 1 := by
      rcases PQ.out with ⟨_, h⟩ | ⟨_, h⟩ <;> (have := congrArg List.length h; rw [putB_len, List.length_append] at this; have := HL.out; omega)
    by_cases hlt : kk < n
    · have hltz : (kk : Int) < (n : Int) := by omega
      obtain ⟨b, off, x1, x2, ha, hx, hb, hc1, hc2⟩ := (HR.out.below BW.out).at_bk kk hlt
      have hdr := hide (show xs.drop kk = (x1, x2) :: xs.drop (kk + 1) by
        obtain ⟨g1, g2⟩ := List.getElem?_eq_some_iff.1 hx
        rw [← g2]; exact List.drop_eq_getElem_cons g1)
      have hbw := hide (show b < w.heap.size from (HR.out.2.2.2 _ ha).2.1)
      subst ha
      have d1 := BC.out.1
      have d2 := BC.out.2
      clear hx
      have hll := hide (show out.length < 4294967296 by omega)
      have hll2 := hide (show (out ++ [(b1, b2)]).length < 4294967296 by rw [List.length_append]; simp; omega)
      cases q with
      | true =>
        have hp := hide (show putB xs (b1, b2) = out ++ xs.drop kk by rcases PQ.out with ⟨h, _⟩ | ⟨_, h⟩; cases h; exact h)
        go_wp2_with (fail)
        go_quiet (fail)
        obtain ⟨wd, hwd⟩ : ∃ wd, wd = wr.drewN nq := ⟨_, rfl⟩
        have hbd : Below wr.heap.size wr wd := by rw [hwd]; exact ⟨rfl, rfl, rfl, Nat.le_refl _, fun _ _ => rfl⟩
        have c1 := cell_later hbd hc1
        have c2 := cell_later hbd hc2
        have e1 := cell_later hbd d1
        have e2 := cell_later hbd d2
        have HBD := hide hbd
        rw [← hwd]
        have OW2 := hide (OW.out.below hbd)
        have SZ2 := hide (Nat.le_trans SZ.out hbd.size)
        clear hwd hbd hc1 hc2 d1 d2
        go_wp2_with (at_builtin; refine wpList_app1 El_bk bkc bkc_len bkc_one rfl _ _ rfl (w.heap.size + 1) v out (x1, x2) _ rfl rfl OW2.out rfl SZ2.out hll.out (by omega) ?_; intro v' w' h1 h2 h3; have H1 := hide h1; have H3 := hide h3; clear h1 h2 h3)
        go_roundg (n - (kk + 1))
        case measure => omega
        case rel => exact ⟨kk + 1, _, true, _, by omega, by omega, by go_num, rfl, rfl, (hide ((below_then BW.out BW.out.size HBD.out).trans (H3.out.mono (by omega)))), (hide ⟨(H3.out.cell (p := ⟨w.heap.size, 0, none⟩) (Nat.lt_succ_self _)).trans e1, (H3.out.cell (p := ⟨w.heap.size, 1, none⟩) (Nat.lt_succ_self _)).trans e2⟩), H1, (hide (Nat.le_trans SZ2.out H3.out.size)), (hide (.inr ⟨rfl, by rw [hp.out, hdr.out]; simp⟩))⟩
      | false =>
        have hp := hide (show putB xs (b1, b2) = out ++ putB (xs.drop kk) (b1, b2) by rcases PQ.out with ⟨_, h⟩ | ⟨h, _⟩; exact h; cases h)
        by_cases hlt2 : b1 < x1
        · have hp2 := hide (show putB xs (b1, b2) = out ++ (b1, b2) :: (x1, x2) :: xs.drop (kk + 1) by rw [hp.out, hdr.out]; unfold putB; rw [if_pos hlt2])
          go_wp2_with (fail)
          go_quiet (fail)
          obtain ⟨wd, hwd⟩ : ∃ wd, wd = wr.drewN nq := ⟨_, rfl⟩
          have hbd : Below wr.heap.size wr wd := by rw [hwd]; exact ⟨rfl, rfl, rfl, Nat.le_refl _, fun _ _ => rfl⟩
          have c1 := cell_later hbd hc1
          have c2 := cell_later hbd hc2
          have e1 := cell_later hbd d1
          have e2 := cell_later hbd d2
          have HBD := hide hbd
          rw [← hwd]
          have OW2 := hide (OW.out.below hbd)
          have SZ2 := hide (Nat.le_trans SZ.out hbd.size)
          clear hwd hbd hc1 hc2 d1 d2
          go_wp2_with (first
            | (at_builtin; refine wpList_app1 El_bk bkc bkc_len bkc_one rfl _ _ rfl (w.heap.size + 1) v out (b1, b2) _ rfl rfl OW2.out rfl SZ2.out hll.out (by omega) ?_; intro v1 w1 h1 h2 h3; have H1 := hide h1; have H3 := hide h3; have SZ3 := hide (Nat.le_trans SZ2.out h3.size); replace c1 := (h3.cell (p := ⟨b, off + kk * 2, none⟩) (Nat.lt_succ_of_lt hbw.out)).trans c1; replace c2 := (h3.cell (p := ⟨b, off + kk * 2 + 1, none⟩) (Nat.lt_succ_of_lt hbw.out)).trans c2; replace e1 := (h3.cell (p := ⟨w.heap.size, 0, none⟩) (Nat.lt_succ_self _)).trans e1; replace e2 := (h3.cell (p := ⟨w.heap.size, 1, none⟩) (Nat.lt_succ_self _)).trans e2; clear h1 h2 h3)
            | (at_builtin; refine wpList_app1 El_bk bkc bkc_len bkc_one rfl _ _ rfl (w.heap.size + 1) v1 (out ++ [(b1, b2)]) (x1, x2) _ rfl rfl H1.out rfl SZ3.out hll2.out (by omega) ?_; intro v2 w2 h1 h2 h3; have H4 := hide h1; have H5 := hide h3; clear h1 h2 h3))
          go_roundg (n - (kk + 1))
          case measure => omega
          case rel => exact ⟨kk + 1, _, true, _, by omega, by omega, by go_num, rfl, rfl, (hide ((below_then BW.out BW.out.size HBD.out).trans ((H3.out.trans H5.out).mono (by omega)))), (hide ⟨(H5.out.cell (p := ⟨w.heap.size, 0, none⟩) (Nat.lt_succ_self _)).trans e1, (H5.out.cell (p := ⟨w.heap.size, 1, none⟩) (Nat.lt_succ_self _)).trans e2⟩), H4, (hide (Nat.le_trans SZ3.out H5.out.size)), (hide (.inr ⟨rfl, by rw [hp2.out]; simp⟩))⟩
        · have hp2 := hide (show putB xs (b1, b2) = out ++ (x1, x2) :: putB (xs.drop (kk + 1)) (b1, b2) by rw [hp.out, hdr.out]; conv => lhs; unfold putB; rw [if_neg hlt2])
          go_wp2_with (fail)
          go_quiet (fail)
          obtain ⟨wd, hwd⟩ : ∃ wd, wd = wr.drewN nq := ⟨_, rfl⟩
          have hbd : Below wr.heap.size wr wd := by rw [hwd]; exact ⟨rfl, rfl, rfl, Nat.le_refl _, fun _ _ => rfl⟩
          have c1 := cell_later hbd hc1
          have c2 := cell_later hbd hc2
          have e1 := cell_later hbd d1
          have e2 := cell_later hbd d2
          have HBD := hide hbd
          rw [← hwd]
          have OW2 := hide (OW.out.below hbd)
          have SZ2 := hide (Nat.le_trans SZ.out hbd.size)
          clear hwd hbd hc1 hc2 d1 d2
          go_wp2_with (at_builtin; refine wpList_app1 El_bk bkc bkc_len bkc_one rfl _ _ rfl (w.heap.size + 1) v out (x1, x2) _ rfl rfl OW2.out rfl SZ2.out hll.out (by omega) ?_; intro v' w' h1 h2 h3; have H1 := hide h1; have H3 := hide h3; clear h1 h2 h3)
          go_roundg (n - (kk + 1))
          case measure => omega
          case rel => exact ⟨kk + 1, _, false, _, by omega, by omega, by go_num, rfl, rfl, (hide ((below_then BW.out BW.out.size HBD.out).trans (H3.out.mono (by omega)))), (hide ⟨(H3.out.cell (p := ⟨w.heap.size, 0, none⟩) (Nat.lt_succ_self _)).trans e1, (H3.out.cell (p := ⟨w.heap.size, 1, none⟩) (Nat.lt_succ_self _)).trans e2⟩), H1, (hide (Nat.le_trans SZ2.out H3.out.size)), (hide (.inl ⟨rfl, by rw [hp2.out]; simp⟩))⟩
    · have hltz : ¬ (kk : Int) < (n : Int) := by omega
      have : kk = n := by omega
      subst this
      have d1 := BC.out.1
      have d2 := BC.out.2
      have hll := hide (show out.length < 4294967296 by omega)
      have hdr := hide (show xs.drop kk = [] by rw [HL.out, List.drop_length])
      cases q with
      | true =>
        have hp := hide (show putB xs (b1, b2) = out by rcases PQ.out with ⟨h, _⟩ | ⟨_, h⟩; cases h; rw [h, hdr.out, List.append_nil])
        go_wp2
        go_ret
        exact ⟨_, rfl, by rw [hp.out]; exact OW.out.mono (by omega), BW.out⟩
      | false =>
        have hp := hide (show putB xs (b1, b2) = out ++ [(b1, b2)] by rcases PQ.out with ⟨_, h⟩ | ⟨h, _⟩; rw [h, hdr.out]; rfl; cases h)
        go_wp2_with (at_builtin; refine wpList_app1 El_bk bkc bkc_len bkc_one rfl _ _ rfl (w.heap.size + 1) v out (b1, b2) _ rfl rfl OW.out rfl SZ.out hll.out (by omega) ?_; intro v' w' h1 h2 h3; have H1 := hide h1; have H3 := hide h3; clear h1 h2 h3)
        go_ret
        exact ⟨_, rfl, by rw [hp.out]; exact H1.out.mono (by omega), BW.out.trans (H3.out.mono (by omega))⟩

set_option maxRecDepth 100000 in
set_option maxHeartbeats 2000000 in
theorem RSorted_calls (a : Option Addr) (n cap : Nat) (xs : List Bk) (w : World) (hr : Rd 2 bkc w a n xs) (hbig : n < 4294967292) :
    Calls Try.prog 35 #[.slice a n cap] w fun e w' => ∃ v s', e = .returned v ∧ Ow 2 bkc 56 w.heap.size w' v s' ∧ Srt s' ∧ StEq xs s' ∧ Below w.heap.size w w' := by
  have hn := hr.le
  have HL := hide hr.len
  have HR := hide hr
  clear hr
  go_enter Try.func35, Try.ntmps35
  go_wp2
  go_loopg [3, 4] n (fun gg s3 s4 wr => ∃ (kk : Nat) (a' : Option Addr) (l cap' : Nat) (out : List Bk), kk ≤ n ∧ n - kk ≤ gg ∧ s4 = .int .i64 kk ∧ s3 = .slice a' l cap' ∧ Hid (l = kk) ∧ l ≤ n ∧ Hid (Below w.heap.size w wr) ∧ Hid (Ow 2 bkc 56 w.heap.size wr (.slice a' l cap') out) ∧ Hid (Rd 2 bkc wr a' l out) ∧ Hid (Srt out ∧ StEq (xs.take kk) out))
  case atStart => exact ⟨0, none, 0, 0, [], Nat.zero_le _, by omega, rfl, rfl, (hide rfl), Nat.zero_le _, Below.refl _ w, (hide Ow.nil), (hide (Rd.nil _)), (hide ⟨List.Pairwise.nil, StEq.refl _⟩)⟩
  case round =>
    obtain ⟨kk, a', l, cap', out, hkk, hg, rfl, rfl, hl, hln, BW, OW, RW, SE⟩ := hrel
    by_cases hlt : kk < n
    · have hltz : (kk : Int) < (n : Int) := by omega
      obtain ⟨b, off, x1, x2, ha, hx, hb, hc1, hc2⟩ := (HR.out.below BW.out).at_bk kk hlt
      have HX := hide hx
      clear hx
      subst ha
      have HCON := hide (RPut_calls a' l cap' out x1 x2 wr RW.out (by omega))
      go_wp2_with (go_at_call 68; refine HCON.out.mono ?_; rintro e w1 ⟨v, rfl, ho, hb1⟩; obtain ⟨a2, cap2, hv, hr2, _⟩ := ho.form bkc_len; have H1 := hide ho; have H2 := hide hr2; have H3 := hide hb1; have HV := hide hv; clear ho hr2 hb1 hv)
      have hv := HV.out
      have hlen := hide (show (putB out (x1, x2)).length = kk + 1 by rw [putB_len, ← RW.out.len, hl.out])
      rw [hlen.out] at hv
      go_wp2
      go_roundg (n - (kk + 1))
      case measure => omega
      case rel => exact ⟨kk + 1, a2, kk + 1, cap2, putB out (x1, x2), by omega, by omega, by go_num, hv, (hide rfl), by omega, (hide (below_then BW.out BW.out.size H3.out)), (hide (by have h := H1.out.mono BW.out.size; rw [hv] at h; exact h)), (hide (by have h := H2.out; rw [hlen.out] at h; exact h)), (hide (by
          obtain ⟨g1, g2⟩ := putB_facts (x1, x2) SE.out.1
          refine ⟨g1, ?_⟩
          rw [List.take_add_one, HX.out]
          exact (SE.out.2.append (StEq.refl _)).trans g2))⟩
    · have hltz : ¬ (kk : Int) < (n : Int) := by omega
      have : kk = n := by omega
      subst this
      go_wp2
      go_ret
      exact ⟨_, rfl, out, OW.out, SE.out.1, by have h := SE.out.2; rw [HL.out, List.take_length] at h; exact h, BW.out⟩
end Go.Proofs.Ytiaifphidcfddaa
