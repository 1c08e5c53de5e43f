/- The laws of package flash: one, of two memories that differ in one byte at most. -/
import Derived.Test.YtdoehnnhbfmleaaL4
namespace Go.Proofs.Ytdoehnnhbfmleaa
open Go Go.RowKit Go.Shelf

set_option maxRecDepth 100000 in
set_option maxHeartbeats 1000000 in
theorem one_any (ok : Ok) (xs : List UInt8) (k : Nat) (v : UInt8) (hk : k < xs.length) (A A2 : Option Addr) (c c2 : Nat) (w : World) (hf : isSlice kU8 ok w (.slice A xs.length c) xs) (hg : isSlice kU8 ok w (.slice A2 xs.length c2) (xs.set k v)) (hl : xs.length ≤ 1000000) :
    Calls Try.prog 39 #[.slice A xs.length c, .slice A2 xs.length c2] w fun e w' => e = .returned (.tuple #[.int .i64 (if xs[k] ≠ v then 1 else 0), .int .i64 (if xs[k] ≠ v then (k : Int) else -1)]) ∧ Below w.heap.size w w' := by
  have hyl : (xs.set k v).length = xs.length := List.length_set
  have hyk : (xs.set k v)[k]? = some v := by rw [List.getElem?_set_self hk]
  have hyn : ∀ j, j ≠ k → (xs.set k v)[j]? = xs[j]? := fun j hj => List.getElem?_set_ne (Ne.symm hj)
  generalize xs.set k v = ys at *
  go_enter Try.func39, Try.ntmps39
  go_wp2
  go_loopw [6, 7, 11] (fun mv av iv wr => ∃ (j : Nat), j ≤ xs.length ∧ iv = .int .i64 j ∧ mv = .int .i64 (if k < j ∧ xs[k] ≠ v then 1 else 0) ∧ av = .int .i64 (if k < j ∧ xs[k] ≠ v then (k : Int) else -1) ∧ Below w.heap.size w wr) (fun _ _ iv _ => xs.length - (intOf iv).toNat)
  case atStart => exact ⟨0, Nat.zero_le _, rfl, by simp, by simp, Below.refl _ _⟩
  case round =>
    obtain ⟨j, hj, rfl, rfl, rfl, hb⟩ := hrel
    by_cases hlt : j < xs.length
    · obtain ⟨g1, o1, rfl, _, hg1, p1⟩ := bytes_open (hf.agree (Agree.below hb)) (by omega)
      obtain ⟨g2, o2, rfl, _, hg2, p2⟩ := bytes_open (hg.agree (Agree.below hb)) (by omega)
      have x1 := p1 j hlt
      have x2 := p2 j (by omega)
      have hyj : ys[j]? = some ys[j] := List.getElem?_eq_getElem (by omega)
      have hxj : xs[j]? = some xs[j] := List.getElem?_eq_getElem hlt
      clear p1 p2
      have r1 : (0 : Int) ≤ (j : Int) := by omega
      have r2 : (j : Int) < (xs.length : Int) := by omega
      by_cases hbe : xs[j] = ys[j]
      · have hbn : ((xs[j]).toNat : Int) = ((ys[j]).toNat : Int) := by rw [hbe]
        have hsame : (k < j + 1 ∧ xs[k] ≠ v) ↔ (k < j ∧ xs[k] ≠ v) := by
          constructor
          · intro h
            refine ⟨?_, h.2⟩
            rcases Nat.lt_or_ge k j with h1 | h1
            · exact h1
            · exfalso
              have : k = j := by omega
              subst this
              rw [hyk] at hyj
              exact h.2 (hbe.trans (Option.some.inj hyj).symm)
          · intro h
            exact ⟨by omega, h.2⟩
        generalize hm : (if k < j ∧ xs[k] ≠ v then (1 : Int) else 0) = m at *
        generalize ha : (if k < j ∧ xs[k] ≠ v then (k : Int) else -1) = a at *
        have hm' : (if k < j + 1 ∧ xs[k] ≠ v then (1 : Int) else 0) = m := by rw [← hm]; simp only [hsame]
        have ha' : (if k < j + 1 ∧ xs[k] ≠ v then (k : Int) else -1) = a := by rw [← ha]; simp only [hsame]
        clear hm ha hyn hyk hyj hxj hsame hbe hf hg
        go_wp2
        rename_i Q K hK
        go_region_held3 (fun W' => W'.cell? ⟨g1, o1 + j, none⟩ = some (.int .u8 (xs[j]).toNat) ∧ W'.cell? ⟨g2, o2 + j, none⟩ = some (.int .u8 (ys[j]).toNat))
          (exact ⟨x1, x2⟩) (fail)
        simp only [Exit.then]
        apply hK
        clear hK
        go_wp2
        refine ⟨⟨j + 1, by omega, by rw [show ((j + 1 : Nat) : Int) = (j : Int) + 1 by omega], by rw [hm'], by rw [ha'], hb.trans (Below.refl _ wr).drew⟩, ?_⟩
        simp [intOf]; omega
      · have hkj : k = j := by
          rcases Nat.decEq j k with h | h
          · have := hyn j h
            rw [hyj, hxj] at this
            exact absurd (Option.some.inj this).symm hbe
          · exact h.symm
        subst hkj
        rw [hyk] at hyj
        have hv : xs[k] ≠ v := fun e => hbe (e.trans (Option.some.inj hyj))
        have hm : (if k < k ∧ xs[k] ≠ v then (1 : Int) else 0) = 0 := by simp
        have ha : (if k < k ∧ xs[k] ≠ v then (k : Int) else -1) = -1 := by simp
        have hbn : ¬ ((xs[k]).toNat : Int) = ((ys[k]).toNat : Int) := by
          intro e
          exact hbe (UInt8.toNat_inj.1 (by omega))
        have hm' : (if k < k + 1 ∧ xs[k] ≠ v then (1 : Int) else 0) = 1 := if_pos ⟨by omega, hv⟩
        have ha' : (if k < k + 1 ∧ xs[k] ≠ v then (k : Int) else -1) = k := if_pos ⟨by omega, hv⟩
        rw [hm, ha]
        clear hm ha hyn hyk hyj hxj hbe hf hg hv
        go_wp2
        rename_i Q K hK
        go_region_held3 (fun W' => W'.cell? ⟨g1, o1 + k, none⟩ = some (.int .u8 (xs[k]).toNat) ∧ W'.cell? ⟨g2, o2 + k, none⟩ = some (.int .u8 (ys[k]).toNat))
          (exact ⟨x1, x2⟩) (fail)
        simp only [Exit.then]
        apply hK
        clear hK
        go_wp2
        refine ⟨⟨k + 1, by omega, by rw [show ((k + 1 : Nat) : Int) = (k : Int) + 1 by omega], by rw [hm'], by rw [ha'], hb.trans (Below.refl _ wr).drew⟩, ?_⟩
        simp [intOf]; omega
    · have hie : j = xs.length := by omega
      subst hie
      go_wp2
      all_goals go_ret2
      all_goals exact ⟨rfl, hb⟩
end Go.Proofs.Ytdoehnnhbfmleaa
