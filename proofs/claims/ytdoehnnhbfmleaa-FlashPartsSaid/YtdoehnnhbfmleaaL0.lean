/- Flash memories as plain data: how long things are. -/
import Derived.Test.YtdoehnnhbfmleaaF4
namespace Go.Proofs.Ytdoehnnhbfmleaa

theorem new_len (s q : Int) : (new s q).1.bytes.length ≤ 1000000 := by
  unfold new
  by_cases h : s < 1 ∨ 1024 < s ∨ q < 1 ∨ 16384 / s < q
  · rw [if_pos h]; simp
  · rw [if_neg h]
    have := (Int.le_ediv_iff_mul_le (a := q) (b := 16384) (c := s) (by omega)).1 (by omega)
    rw [Int.mul_comm] at this
    simp only [List.length_replicate]
    omega

theorem steps_len (f : Fl) (s n : Nat) (g : Nat → UInt8 → UInt8) : ∀ x ∈ steps f s n g, x.bytes.length = f.bytes.length := by
  intro x hx
  simp only [steps, List.mem_map] at hx
  obtain ⟨i, _, rfl⟩ := hx
  simp

/-- a list that is not too long, of memories that are not too long. -/
def Small (l : List Fl) : Prop := l.length ≤ 1000000 ∧ ∀ x ∈ l, x.bytes.length ≤ 1000000

theorem program_len (f : Fl) (s : Int) (data : List UInt8) : Small (program f s data).1 := by
  unfold program
  split
  · exact ⟨by simp, by simp⟩
  · rename_i h
    have hv : valid f = true := by cases hv : valid f with
      | false => exact absurd (.inl hv) h
      | true => rfl
    have := (valid_len hv).1
    split
    · exact ⟨by simp, by simp⟩
    · refine ⟨by rw [steps_length]; omega, fun x hx => by rw [steps_len _ _ _ _ x hx]; omega⟩

theorem erase_len (f : Fl) (s : Int) : Small (erase f s).1 := by
  unfold erase
  split
  · exact ⟨by simp, by simp⟩
  · rename_i h
    have hv : valid f = true := by cases hv : valid f with
      | false => exact absurd (.inl hv) h
      | true => rfl
    have := valid_len hv
    refine ⟨by rw [steps_length]; omega, fun x hx => by rw [steps_len _ _ _ _ x hx]; omega⟩
end Go.Proofs.Ytdoehnnhbfmleaa
