/-
  The reference's numbers as bytes.
-/
import Derived.Test.YtiaifphidcfddaaOctet
import Derived.Laws.IdiomStrings
set_option linter.unusedVariables false
set_option linter.unusedSimpArgs false
namespace Go.Proofs.Ytiaifphidcfddaa
open Go.RowKit Go.Shelf

theorem oneByte (b : Nat) (hb : b < 256) (w : World) (B : Nat) (cap : Nat) (hc : w.cell? ⟨B, 0, none⟩ = some (.int .u8 (b : Int))) : (convert 166 9 (.slice (some ⟨B, 0, none⟩) 1 cap)).run Try.prog w = .ok (.string ⟨#[UInt8.ofNat b]⟩) w :=
  run_convert_bytes_back (P := Try.prog) w 166 9 5 ⟨B, 0, none⟩ cap [UInt8.ofNat b] Try.underlying166 Try.underlying5 Try.underlying9 (fun j hj => by
    have : j = 0 := by simpa using hj
    subst this
    have e : (UInt8.ofNat b).toNat = b := by simp [Nat.mod_eq_of_lt hb]
    simpa [Addr.add, e] using hc)

theorem putS_succ (v k : Nat) : (putS v (k + 1)).data.toList = byteAt v (k + 1) 0 :: (putS v k).data.toList := by
  simp only [putS]
  rw [List.range_succ_eq_map, List.map_cons, List.map_map]
  congr 1
  apply List.map_congr_left
  intro i hi
  simp only [Function.comp, byteAt]
  rw [List.mem_range] at hi
  rw [show k + 1 - 1 - (i + 1) = k - 1 - i from by omega]

theorem ba_ext {a b : ByteArray} (h : a.data.toList = b.data.toList) : a = b := by
  cases a; cases b; congr 1; exact Array.toList_inj.1 h
theorem ba_append_toList (a b : ByteArray) : (a ++ b).data.toList = a.data.toList ++ b.data.toList := by
  rw [ByteArray.data_append, Array.toList_append]

set_option maxRecDepth 100000 in
set_option maxHeartbeats 2000000 in
theorem RPut_calls (v m : Nat) (hv : v < 18446744073709551616) (hm1 : 1 ≤ m) (hm : m ≤ 8) (w : World) :
    Calls Try.prog 114 #[.int .u64 (v : Int), .int .i64 (m : Int)] w fun e w' => e = .returned (.string (putS v m)) ∧ Below w.heap.size w w' := by
  have h1z : ¬ (m : Int) < 1 := by omega
  have h2z : ¬ (8 : Int) < (m : Int) := by omega
  go_enter Try.func114, Try.ntmps114
  go_wp2
  go_loopg [0, 5, 6] m (fun gg s0 s5 s6 wr => ∃ (k u : Nat) (s : ByteArray), k ≤ m ∧ m - k ≤ gg ∧ s0 = .int .u64 (u : Int) ∧ s5 = .string s ∧ s6 = .int .i64 (k : Int) ∧ u < 18446744073709551616 ∧ s.size ≤ k ∧ Hid (u = v / 2 ^ (8 * k)) ∧ Hid (s = putS v k) ∧ Hid (Below w.heap.size w wr))
  case atStart => exact ⟨0, v, ⟨#[]⟩, Nat.zero_le _, Nat.le_refl _, rfl, rfl, rfl, hv, Nat.le_refl _, (hide (by simp)), (hide rfl), Below.refl _ _⟩
  case round =>
    obtain ⟨k, u, s, hk, hg, rfl, rfl, rfl, hu, hsz, HU, HS, BW⟩ := hrel
    by_cases hlt : k < m
    · have hltz : (k : Int) < (m : Int) := by omega
      have hone := oneByte (u % 256) (Nat.mod_lt _ (by decide)) (wr.alloc (.cells #[.int .u8 ((u : Int) % 256)] 5)) wr.heap.size 1 (by simp)
      go_wp2
      clear hone
      go_roundg (m - (k + 1))
      case measure => omega
      case rel =>
        have eu : ((u : Int) / 256) = ((u / 256 : Nat) : Int) := by omega
        refine ⟨k + 1, u / 256, ⟨#[UInt8.ofNat (u % 256)]⟩ ++ s, by omega, by omega, by rw [eu], rfl, by go_num, by omega, ?_, ?_, ?_, BW.out.alloc BW.out.size _⟩
        · rw [ByteArray.size_append]; show 1 + s.size ≤ k + 1; omega
        · refine hide ?_
          rw [HU.out, Nat.div_div_eq_div_mul, show 8 * (k + 1) = 8 * k + 8 from by omega, Nat.pow_add]
        · refine hide ?_
          apply ba_ext
          rw [ba_append_toList, putS_succ, HS.out]
          congr 1
          simp only [byteAt, HU.out, Nat.add_sub_cancel, Nat.sub_zero]
          rfl
    · have hltz : ¬ (k : Int) < (m : Int) := by omega
      obtain rfl : k = m := by omega
      go_wp2
      go_ret
      exact ⟨by rw [HS.out]; rfl, BW.out⟩
end Go.Proofs.Ytiaifphidcfddaa
