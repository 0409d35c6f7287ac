/-
  Where a backend's point is: the program's and the reference's hash.
-/
import Derived.Test.YtiaifphidcfddaaRef1
set_option linter.unusedVariables false
set_option linter.unusedSimpArgs false
namespace Go.Proofs.Ytiaifphidcfddaa
open Go.RowKit Go.Shelf

theorem putS_size (v m : Nat) : (putS v m).size = m := by simp [putS, ByteArray.size]

def zeros4 : ByteArray := ⟨#[0, 0, 0, 0]⟩
theorem putS_zero : putS 0 4 = zeros4 := by
  apply ba_ext
  decide

/-- Where a backend's n-th point is. -/
def hashP (id n : Nat) : Int := sumH (putS id 4 ++ putS n 2 ++ zeros4)

theorem joinH_append (h : Int) (s t : ByteArray) : joinH (joinH h s) t = joinH h (s ++ t) := by
  unfold joinH
  rw [ba_append_toList]
  simp [joinL, List.foldl_append]

theorem hashP_eq (id n : Nat) : joinH (sumH (putS id 4)) (putS n 2 ++ putS 0 4) = hashP id n := by
  unfold hashP sumH
  rw [joinH_append, putS_zero]
  rw [show putS id 4 ++ (putS n 2 ++ zeros4) = putS id 4 ++ putS n 2 ++ zeros4 from by apply ba_ext; simp only [ba_append_toList, List.append_assoc]]

set_option maxHeartbeats 1000000 in
theorem Hash_calls (id n : Nat) (hid : id < 4294967296) (hn : n < 65536) (w : World) :
    Calls Try.prog 97 #[.int .i64 (id : Int), .int .i64 (n : Int)] w fun e w' => e = .returned (.int .u64 (hashP id n)) ∧ Below w.heap.size w w' := by
  have hz1 : (putS id 4).size ≤ 1048576 := by rw [putS_size]; omega
  have hz2 : (putS n 2 ++ putS 0 4).size ≤ 1048576 := by rw [ByteArray.size_append, putS_size, putS_size]; omega
  have E := hide (hashP_eq id n)
  go_enter Try.func97, Try.ntmps97
  go_wp2_with fail
  refine (Put_calls id 4 (by omega) (by omega) (by omega) _).mono ?_
  rintro e w1 ⟨rfl, hb1⟩
  go_wp2_with fail
  refine (Sum_calls _ hz1 _).mono ?_
  rintro e w2 ⟨rfl, hb2⟩
  go_wp2_with fail
  refine (Put_calls n 2 (by omega) (by omega) (by omega) _).mono ?_
  rintro e w3 ⟨rfl, hb3⟩
  go_wp2_with fail
  refine (Put_calls 0 4 (by omega) (by omega) (by omega) _).mono ?_
  rintro e w4 ⟨rfl, hb4⟩
  go_wp2_with fail
  refine (Join_calls _ _ hz2 _).mono ?_
  rintro e w5 ⟨rfl, hb5⟩
  go_wp2
  go_ret
  exact ⟨by rw [← E.out]; rfl, below_then (below_then (below_then (below_then hb1 hb1.size hb2) (Nat.le_trans hb1.size hb2.size) hb3) (by have := hb1.size; have := hb2.size; have := hb3.size; omega) hb4) (by have := hb1.size; have := hb2.size; have := hb3.size; have := hb4.size; omega) hb5⟩

set_option maxHeartbeats 1000000 in
theorem RHash_calls (id n : Nat) (hid : id < 4294967296) (hn : n < 65536) (w : World) :
    Calls Try.prog 91 #[.int .i64 (id : Int), .int .i64 (n : Int)] w fun e w' => e = .returned (.int .u64 (hashP id n)) ∧ Below w.heap.size w w' := by
  have hz1 : (putS id 4 ++ putS n 2 ++ zeros4).size ≤ 1048576 := by rw [ByteArray.size_append, ByteArray.size_append, putS_size, putS_size]; show 4 + 2 + 4 ≤ 1048576; omega
  go_enter Try.func91, Try.ntmps91
  go_wp2_with fail
  refine (RPut_calls id 4 (by omega) (by omega) (by omega) _).mono ?_
  rintro e w1 ⟨rfl, hb1⟩
  go_wp2_with fail
  refine (RPut_calls n 2 (by omega) (by omega) (by omega) _).mono ?_
  rintro e w3 ⟨rfl, hb3⟩
  go_wp2_with fail
  refine (RSum_calls (putS id 4 ++ putS n 2 ++ zeros4) hz1 _).mono ?_
  rintro e w4 ⟨rfl, rfl⟩
  go_wp2
  go_ret
  exact ⟨rfl, below_then hb1 hb1.size hb3⟩
end Go.Proofs.Ytiaifphidcfddaa
