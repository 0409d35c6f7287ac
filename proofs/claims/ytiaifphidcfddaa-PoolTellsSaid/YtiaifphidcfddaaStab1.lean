/-
  pool.Sorted at one backend: the stable sort has nothing to do there.
-/
import Derived.Test.YtiaifphidcfddaaSeq
set_option linter.unusedVariables false
set_option linter.unusedSimpArgs false
namespace Go.Proofs.Ytiaifphidcfddaa
open Go.RowKit Go.Shelf

theorem insOne_calls (s g : Value) (w : World) :
    Calls Try.prog 122 #[s, .int .i64 0, .int .i64 1, g] w fun e w' => e = .returned (.tuple #[]) ∧ w' = w := by
  go_enter Try.func122, Try.ntmps122
  go_wp2
  go_loopg [8] 0 (fun _ s8 wr => s8 = .int .i64 1 ∧ wr = w)
  case atStart => exact ⟨rfl, rfl⟩
  case round =>
    obtain ⟨rfl, rfl⟩ := hrel
    go_wp2
    go_end0
    exact ⟨rfl, rfl⟩

theorem stableOne_calls (s g : Value) (w : World) :
    Calls Try.prog 101 #[s, .int .i64 1, g] w fun e w' => e = .returned (.tuple #[]) ∧ w' = w := by
  go_enter Try.func101, Try.ntmps101
  go_wp2
  go_loopg [7, 8] 0 (fun _ s7 s8 wr => s7 = .int .i64 0 ∧ s8 = .int .i64 20 ∧ wr = w)
  case atStart => exact ⟨rfl, rfl, rfl⟩
  case round =>
    obtain ⟨rfl, rfl, rfl⟩ := hrel
    go_wp2_with (go_at_call 122; refine (insOne_calls _ _ _).mono ?_; rintro e w' ⟨rfl, rfl⟩)
    go_loopg [6] 0 (fun _ s6 wr => s6 = .int .i64 20 ∧ wr = w')
    case atStart => exact ⟨rfl, rfl⟩
    case round =>
      obtain ⟨rfl, rfl⟩ := hrel
      go_wp2
      go_end0
      exact ⟨rfl, rfl⟩

theorem SortStableOne_calls (a : Option Addr) (cap : Nat) (g : Value) (w : World) :
    Calls Try.prog 84 #[.slice a 1 cap, g] w fun e w' => e = .returned (.tuple #[]) ∧ w' = w := by
  go_enter Try.func84, Try.ntmps84
  go_wp2_with (go_at_call 101; refine (stableOne_calls _ _ _).mono ?_; rintro e w' ⟨rfl, rfl⟩)
  go_end0
  exact ⟨rfl, rfl⟩

theorem SortedStableOne_calls (g : Nat) (lb : Array Value) (eg : ∀ args w, (callFunc g args).run Try.prog w = .ok (.enter g args) w) (cmp : Value) (x : Bk) (n₀ : Nat) (w : World) (hn₀ : n₀ ≤ w.heap.size)
    (hseq : SeqStopsK Fence.wide 4 Try.prog g lb (fun x : Bk => #[bkv x]) (Below n₀) (fun ys => ys = [x]) (fun _ => True) 1 w) :
    Calls Try.prog 64 #[.func (.func g) #[] lb, cmp] w fun e w' => ∃ v, e = .returned v ∧ Ow 2 bkc 56 w.heap.size w' v [x] ∧ Below w.heap.size w w' := by
  have hcon := Collect_calls g lb eg [x] n₀ w hn₀ (by simp) hseq
  clear hseq
  go_enter Try.func64, Try.ntmps64
  go_wp2_with (first
    | (go_at_call 83; refine hcon.mono ?_; rintro e w' ⟨v, rfl, ho, hb⟩; obtain ⟨a, cap, hv, _⟩ := ho.form bkc_len; subst hv)
    | (go_at_call 84; refine (SortStableOne_calls _ _ _ _).mono ?_; rintro e w' ⟨rfl, rfl⟩))
  go_ret
  exact ⟨_, rfl, ho, hb⟩

theorem SortedOne_calls (a : Option Addr) (cap : Nat) (x : Bk) (w : World) (hr : Rd 2 bkc w a 1 [x]) :
    Calls Try.prog 34 #[.slice a 1 cap] w fun e w' => ∃ v, e = .returned v ∧ Ow 2 bkc 56 w.heap.size w' v [x] ∧ Below w.heap.size w w' := by
  have hb1 : Below w.heap.size w (w.alloc (.cells #[.slice a 1 cap] 31)) := (Below.refl _ _).alloc (Nat.le_refl _) _
  have hcon := SortedStableOne_calls 85 #[.pointer (some ⟨w.heap.size, 0, none⟩)]
    (enters_of Try.func85 (by kernel_rfl) rfl) (.func (.func 66) #[] #[]) x w.heap.size _ (by simp)
    (Values_stops 4 (by omega) w.heap.size w.heap.size a 1 cap [x] (w.alloc (.cells #[.slice a 1 cap] 31)) (by simp) (by simp) (by simp) (hr.below hb1) (fun p hp => (hr.2.2.2 p hp).2.1))
  clear hr
  go_enter Try.func34, Try.ntmps34
  go_wp2_with (first
    | (go_at_call 65; refine (Values_calls _ _ _ _).mono ?_; rintro e w' ⟨rfl, rfl⟩)
    | (go_at_call 64; refine hcon.mono ?_; rintro e w' ⟨v, rfl, ho, hb⟩))
  go_ret
  exact ⟨v, rfl, ho.mono (by simp), below_then hb1 (by simp) hb⟩
end Go.Proofs.Ytiaifphidcfddaa
