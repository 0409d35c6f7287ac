/-
  pool.Sorted: the stable sort by number.
-/
import Derived.Test.YtiaifphidcfddaaStable
set_option linter.unusedVariables false
set_option linter.unusedSimpArgs false
namespace Go.Proofs.Ytiaifphidcfddaa
open Go.RowKit Go.Shelf

theorem insNil_calls (s g : Value) (w : World) :
    Calls Try.prog 122 #[s, .int .i64 0, .int .i64 0, g] w fun e w' => e = .returned (.tuple #[]) ∧ w' = w := by
  go_enter Try.func122, Try.ntmps122
  go_wp2
  go_loopg [8] 0 (fun _ s8 wr => s8 = .int .i64 1 ∧ wr = w)
  case atStart => exact ⟨rfl, rfl⟩
  case round =>
    obtain ⟨rfl, rfl⟩ := hrel
    go_wp2
    go_end0
    exact ⟨rfl, rfl⟩

theorem stableNil_calls (s g : Value) (w : World) :
    Calls Try.prog 101 #[s, .int .i64 0, g] w fun e w' => e = .returned (.tuple #[]) ∧ w' = w := by
  go_enter Try.func101, Try.ntmps101
  go_wp2
  go_loopg [7, 8] 0 (fun _ s7 s8 wr => s7 = .int .i64 0 ∧ s8 = .int .i64 20 ∧ wr = w)
  case atStart => exact ⟨rfl, rfl, rfl⟩
  case round =>
    obtain ⟨rfl, rfl, rfl⟩ := hrel
    go_wp2_with (go_at_call 122; refine (insNil_calls _ _ _).mono ?_; rintro e w' ⟨rfl, rfl⟩)
    go_loopg [6] 0 (fun _ s6 wr => s6 = .int .i64 20 ∧ wr = w')
    case atStart => exact ⟨rfl, rfl⟩
    case round =>
      obtain ⟨rfl, rfl⟩ := hrel
      go_wp2
      go_end0
      exact ⟨rfl, rfl⟩

theorem SortStable_calls (v : Value) (xs : List Bk) (base : Nat) (w : World) (ho : Ow 2 bkc 56 base w v xs) (hn : xs.length ≤ 262144) (hbase : base ≤ w.heap.size) :
    Calls Try.prog 84 #[v, .func (.func 66) #[] #[]] w fun e w' => e = .returned (.tuple #[]) ∧ ∃ s', Ow 2 bkc 56 base w' v s' ∧ Srt s' ∧ StEq xs s' ∧ Below base w w' := by
  obtain ⟨a, cap, hv, hr, hb⟩ := ho.form bkc_len
  subst hv
  cases a with
  | none =>
    have hx := hr.2.2.1 rfl
    subst hx
    have HO := hide ho
    clear ho hr hb
    go_enter Try.func84, Try.ntmps84
    go_wp2_with (go_at_call 101; refine (stableNil_calls _ _ _).mono ?_; rintro e w' ⟨rfl, rfl⟩)
    go_end0
    exact ⟨rfl, [], HO.out, List.Pairwise.nil, StEq.refl _, Below.refl _ _⟩
  | some p =>
    obtain ⟨b, off, sp⟩ := p
    have h1 := (hb _ rfl).2.1
    have h2 := (hr.2.2.2 _ rfl).1
    have h3 := (hb _ rfl).1
    simp only at h1 h2 h3
    subst h1 h2
    obtain ⟨n, hnn⟩ : ∃ n, n = xs.length := ⟨_, rfl⟩
    rw [← hnn] at ho hn
    have hcon := Stable_calls b n cap base xs w (by rw [hnn] at ho ⊢; exact ho) hn
    have HCON := hide hcon
    have HB := hide h3
    have HN := hide hnn
    clear ho hr hb hcon h3
    rw [← HN.out]
    clear hnn
    go_enter Try.func84, Try.ntmps84
    go_wp2_with (go_at_call 101; refine HCON.out.mono ?_; rintro e w' ⟨rfl, s', ho2, hs2, hq2, hg2⟩; have H2 := hide (And.intro ho2 (And.intro hs2 (And.intro hq2 hg2))); clear ho2 hs2 hq2 hg2)
    go_end0
    exact ⟨rfl, s', H2.out.1, H2.out.2.1, H2.out.2.2.1, (Below.refl base w).grown H2.out.2.2.2 hbase (fun k e => by cases e; exact HB.out)⟩

theorem SortedStable_calls (g : Nat) (lb : Array Value) (eg : ∀ args w, (callFunc g args).run Try.prog w = .ok (.enter g args) w) (xs : List Bk) (n₀ : Nat) (w : World) (hn₀ : n₀ ≤ w.heap.size) (hn : xs.length ≤ 262144)
    (hseq : SeqStopsK Fence.wide 4 Try.prog g lb (fun x : Bk => #[bkv x]) (Below n₀) (fun ys => ys = xs) (fun _ => True) xs.length w) :
    Calls Try.prog 64 #[.func (.func g) #[] lb, .func (.func 66) #[] #[]] w fun e w' => ∃ v s', e = .returned v ∧ Ow 2 bkc 56 w.heap.size w' v s' ∧ Srt s' ∧ StEq xs s' ∧ Below w.heap.size w w' := by
  have hcon := Collect_calls g lb eg xs n₀ w hn₀ (by omega) hseq
  have HCON := hide hcon
  clear hseq hcon
  go_enter Try.func64, Try.ntmps64
  go_wp2_with (first
    | (go_at_call 83; refine HCON.out.mono ?_; rintro e w' ⟨v, rfl, ho, hb⟩; have HO := hide ho; have HB := hide hb; obtain ⟨a, cap, hv, _⟩ := ho.form bkc_len; clear ho hb; subst hv)
    | (go_at_call 84; refine (SortStable_calls _ _ _ _ HO.out hn HB.out.size).mono ?_; rintro e w2 ⟨rfl, s', ho2, hs2, hq2, hb2⟩; have H2 := hide (And.intro ho2 (And.intro hs2 (And.intro hq2 hb2))); clear ho2 hs2 hq2 hb2))
  go_ret
  exact ⟨_, s', rfl, H2.out.1, H2.out.2.1, H2.out.2.2.1, HB.out.trans H2.out.2.2.2⟩

theorem Sorted_calls (a : Option Addr) (n cap : Nat) (xs : List Bk) (w : World) (hr : Rd 2 bkc w a n xs) (hn : n ≤ 262144) :
    Calls Try.prog 34 #[.slice a n cap] w fun e w' => ∃ v s', e = .returned v ∧ Ow 2 bkc 56 w.heap.size w' v s' ∧ Srt s' ∧ StEq xs s' ∧ Below w.heap.size w w' := by
  have hb1 : Below w.heap.size w (w.alloc (.cells #[.slice a n cap] 31)) := (Below.refl _ _).alloc (Nat.le_refl _) _
  have hcon := SortedStable_calls 85 #[.pointer (some ⟨w.heap.size, 0, none⟩)]
    (enters_of Try.func85 (by kernel_rfl) rfl) xs w.heap.size _ (by simp) (by rw [← hr.len]; exact hn)
    (Values_stops 4 (by omega) w.heap.size w.heap.size a n cap xs (w.alloc (.cells #[.slice a n cap] 31)) (by simp) (by simp) (by simp) (hr.below hb1) (fun p hp => (hr.2.2.2 p hp).2.1))
  have HCON := hide hcon
  have HB1 := hide hb1
  clear hr hcon hb1
  go_enter Try.func34, Try.ntmps34
  go_wp2_with (first
    | (go_at_call 65; refine (Values_calls _ _ _ _).mono ?_; rintro e w' ⟨rfl, rfl⟩)
    | (go_at_call 64; refine HCON.out.mono ?_; rintro e w' ⟨v, s', rfl, ho, hs, hq, hb⟩; have H2 := hide (And.intro ho (And.intro hs (And.intro hq hb))); clear ho hs hq hb))
  go_ret
  exact ⟨v, s', rfl, H2.out.1.mono (by simp), H2.out.2.1, H2.out.2.2.1, below_then HB1.out (by simp) H2.out.2.2.2⟩
end Go.Proofs.Ytiaifphidcfddaa
