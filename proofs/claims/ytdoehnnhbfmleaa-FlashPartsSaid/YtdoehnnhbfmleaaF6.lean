/- Package flash: New. -/
import Derived.Test.YtdoehnnhbfmleaaF5
namespace Go.Proofs.Ytdoehnnhbfmleaa
open Go Go.RowKit Go.Shelf

set_option maxRecDepth 100000 in
set_option maxHeartbeats 1000000 in
theorem new_bad (s q : Int) (w : World) (h : s < 1 ∨ (1 ≤ s ∧ (1024 < s ∨ (s ≤ 1024 ∧ (q < 1 ∨ (1 ≤ q ∧ 16384 / s < q)))))) : Calls Try.prog 29 #[.int .i64 s, .int .i64 q] w (NRes w ⟨0, []⟩ 1) := by
  have fin : ∀ tmps : Array Value, tmps.getD 4 undef = .pointer (some ⟨w.heap.size, 0, none⟩) → tmps.getD 5 undef = .int .i64 1 → bodyPost Try.prog Try.f29 (NRes w ⟨0, []⟩ 1) .ret (⟨tmps, []⟩ : Act) (w.alloc (.cells #[.int .i64 0, .slice none 0 0] 24)) := by
    intro tmps h4 h5
    refine bodyPost_ret_by (results_flash rfl _ _ w.heap.size (.int .i64 0) (.slice none 0 0) (0, 0) h4 (World.alloc_heap_new _ _)) rfl ?_
    rw [h5]
    exact ⟨none, 0, rfl, isSlice.nil _ _ _ _ _, (Below.refl _ w).alloc (Nat.le_refl _) _⟩
  rcases h with h | ⟨h1, h | ⟨h2, h | ⟨h3, h⟩⟩⟩
  · have e1 : decide (s < 1) = true := by simp [h]
    go_enter Try.func29, Try.ntmps29
    go_wp2
    exact fin _ rfl rfl
  · have e1 : decide (s < 1) = false := by simp; omega
    have e2 : decide (1024 < s) = true := by simp; omega
    go_enter Try.func29, Try.ntmps29
    go_wp2
    exact fin _ rfl rfl
  · have e1 : decide (s < 1) = false := by simp; omega
    have e2 : decide (1024 < s) = false := by simp; omega
    have e3 : decide (q < 1) = true := by simp; omega
    go_enter Try.func29, Try.ntmps29
    go_wp2
    exact fin _ rfl rfl
  · have e1 : decide (s < 1) = false := by simp; omega
    have e2 : decide (1024 < s) = false := by simp; omega
    have e3 : decide (q < 1) = false := by simp; omega
    have hq : wrap64 (16384 / s) = 16384 / s := by
      have d1 : 0 ≤ (16384 : Int) / s := Int.ediv_nonneg (by omega) (by omega)
      have d2 : (16384 : Int) / s ≤ 16384 := Int.ediv_le_self _ (by omega)
      unfold wrap64; omega
    go_enter Try.func29, Try.ntmps29
    go_wp2
    exact fin _ rfl rfl

set_option maxRecDepth 100000 in
set_option maxHeartbeats 1000000 in
theorem new_ok (s q : Nat) (w : World) (h1 : 1 ≤ s) (h2 : s ≤ 1024) (h3 : 1 ≤ q) (h4 : (q : Int) ≤ 16384 / (s : Int)) (hm : s * q ≤ 16384) : Calls Try.prog 29 #[.int .i64 s, .int .i64 q] w (NRes w ⟨s, List.replicate (s * q) 255⟩ 0) := by
  have e1 : decide ((s : Int) < 1) = false := by simp; omega
  have e2 : decide ((1024 : Int) < (s : Int)) = false := by simp; omega
  have e3 : decide ((q : Int) < 1) = false := by simp; omega
  have hq : wrap64 (16384 / (s : Int)) = 16384 / (s : Int) := by
    have d1 : 0 ≤ (16384 : Int) / (s : Int) := Int.ediv_nonneg (by omega) (by omega)
    have d2 : (16384 : Int) / (s : Int) ≤ 16384 := Int.ediv_le_self _ (by omega)
    unfold wrap64; omega
  have hmul2 : wrap64 ((s : Int) * (q : Int)) = ((s * q : Nat) : Int) := by
    rw [← Int.natCast_mul]; unfold wrap64; omega
  have hm1 : 1 ≤ s * q := Nat.mul_pos (by omega) (by omega)
  generalize s * q = m at *
  have hb0 : Below w.heap.size w ((w.alloc (.cells #[.int .i64 0, .slice none 0 0] 24)).alloc (.cells #[.int .u8 255] 5)) :=
    ((Below.refl _ w).alloc (Nat.le_refl _) _).alloc (by simp) _
  have q0 : ((w.alloc (.cells #[.int .i64 0, .slice none 0 0] 24)).alloc (.cells #[.int .u8 255] 5)).heap[w.heap.size]? = some (.cells #[.int .i64 0, .slice none 0 0] 24 (0, 0)) := by
    rw [Below.heap_alloc _ _ _ (by simp)]; exact World.alloc_heap_new w _
  have q1 : ((w.alloc (.cells #[.int .i64 0, .slice none 0 0] 24)).alloc (.cells #[.int .u8 255] 5)).heap[w.heap.size + 1]? = some (.cells #[.int .u8 255] 5 (0, 0)) := by
    have := World.alloc_heap_new (w.alloc (.cells #[.int .i64 0, .slice none 0 0] 24)) (.cells #[.int .u8 255] 5)
    rwa [World.size_alloc] at this
  have hsz : w.heap.size + 2 ≤ ((w.alloc (.cells #[.int .i64 0, .slice none 0 0] 24)).alloc (.cells #[.int .u8 255] 5)).heap.size := by simp
  obtain ⟨M, hM⟩ : ∃ M, (m ≤ 8192 ∧ M = m) ∨ (8192 < m ∧ M = 8192) := by
    by_cases h : m ≤ 8192
    · exact ⟨m, .inl ⟨h, rfl⟩⟩
    · exact ⟨8192, .inr ⟨by omega, rfl⟩⟩
  have HR := repeat_any (w.heap.size + 1) m M _ q1 hm1 hm hM
  generalize hW : ((w.alloc (.cells #[.int .i64 0, .slice none 0 0] 24)).alloc (.cells #[.int .u8 255] 5)) = W at *
  have hfin : ∀ w', Below W.heap.size W w' → w'.heap[w.heap.size]? = some (.cells #[.int .i64 0, .slice none 0 0] 24 (0, 0)) := fun w' hb => (hb.block _ (by omega)).trans q0
  clear hm hm1 hM
  go_enter Try.func29, Try.ntmps29
  go_wp2_with (go_at_call 86; (try rw [hW]); refine HR.mono ?_; rintro e w' ⟨A, rfl, hs, hb⟩; have x0 := hfin w' hb; have y3 : w'.cell? ⟨w.heap.size, 0, none⟩ = some (.int .i64 0) := (by simp [World.cell?, x0]); have y4 : w'.cell? ⟨w.heap.size, 1, none⟩ = some (.slice none 0 0) := (by simp [World.cell?, x0]); have y5 : w'.frozen? ⟨w.heap.size, 0, none⟩ = false := (by simp [World.frozen?, x0]); have y6 : w'.frozen? ⟨w.heap.size, 1, none⟩ = false := (by simp [World.frozen?, x0]))
  refine bodyPost_ret_by (results_flash rfl _ _ w.heap.size (.int .i64 s) (.slice A m m) (0, 0) rfl ?_) rfl ?_
  · exact heap_setCell_same _ _ 1 _ _ _ (heap_setCell_same _ _ 0 _ _ _ x0)
  · have hbw : Below w.heap.size w w' := hb0.trans (hb.mono hb0.size)
    refine ⟨A, m, by simp, ?_, (hbw.setCell (by dsimp only; omega) _).setCell (by dsimp only; omega) _⟩
    have hs2 := ((hs.agree (Agree.setCell (p := ⟨w.heap.size, 0, none⟩) _ (.int .i64 s) (by dsimp only; omega))).agree (Agree.setCell (p := ⟨w.heap.size, 1, none⟩) _ (.slice A m m) (by dsimp only; omega))).mono (ok' := fun k => w.heap.size ≤ k) (fun k hk => by omega)
    simpa using hs2

/-- New. -/
theorem new_any (s q : Int) (w : World) : Calls Try.prog 29 #[.int .i64 s, .int .i64 q] w (NRes w (new s q).1 (new s q).2) := by
  unfold new
  by_cases h : s < 1 ∨ 1024 < s ∨ q < 1 ∨ 16384 / s < q
  · rw [if_pos h]
    exact new_bad s q w (by omega)
  · rw [if_neg h]
    obtain ⟨a, rfl⟩ := Int.eq_ofNat_of_zero_le (a := s) (by omega)
    obtain ⟨b, rfl⟩ := Int.eq_ofNat_of_zero_le (a := q) (by omega)
    have hm : a * b ≤ 16384 := by
      have h4 : (b : Int) ≤ 16384 / (a : Int) := by omega
      have := (Int.le_ediv_iff_mul_le (by omega)).1 h4
      rw [← Int.natCast_mul, Nat.mul_comm] at this
      omega
    have e : ((a : Int) * (b : Int)).toNat = a * b := by rw [← Int.natCast_mul]; rfl
    rw [e]
    exact new_ok a b w (by omega) (by omega) (by omega) (by omega) hm
end Go.Proofs.Ytdoehnnhbfmleaa
