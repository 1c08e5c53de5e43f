/- FlashErased: the walk. -/
import Derived.Test.YtdoehnnhbfmleaaL2
import Derived.Test.YtdoehnnhbfmleaaL4
namespace Go.Proofs.Ytdoehnnhbfmleaa
open Go Go.RowKit Go.Shelf

set_option maxRecDepth 100000 in
set_option maxHeartbeats 1000000 in
theorem ferased_any (ok : Ok) (s1 s2 a : Int) (data : List UInt8) (A2 : Option Addr) (c2 : Nat) (w : World) (h1 : 0 ≤ s1 ∧ s1 ≤ 255) (h2 : 0 ≤ s2 ∧ s2 ≤ 255) (h3 : 0 ≤ a ∧ a ≤ 65535) (hd : isSlice kU8 ok w (.slice A2 data.length c2) data) :
    Calls Try.prog 5 #[.int .u8 s1, .int .u8 s2, .int .u16 a, .slice A2 data.length c2] w fun e w' => e = .returned (.bool true) ∧ Below w.heap.size w w' := by
  obtain ⟨S, hS⟩ : ∃ S : Nat, (S : Int) = 1 + s1 % 64 := ⟨(1 + s1 % 64).toNat, by omega⟩
  obtain ⟨Q, hQ⟩ : ∃ Q : Nat, (Q : Int) = 1 + s2 % 4 := ⟨(1 + s2 % 4).toNat, by omega⟩
  have hS1 : 1 ≤ S ∧ S ≤ 64 := by omega
  have hQ1 : 1 ≤ Q ∧ Q ≤ 4 := by omega
  have hnew : new (S : Int) (Q : Int) = (⟨S, List.replicate (S * Q) 255⟩, 0) := by
    have : (Q : Int) ≤ 16384 / (S : Int) := (Int.le_ediv_iff_mul_le (by omega)).2 (by have := Nat.mul_le_mul hQ1.2 hS1.2; have : ((Q * S : Nat) : Int) ≤ 256 := by omega
                                                                                      rw [Int.natCast_mul] at this; omega)
    unfold new
    rw [if_neg (by omega), ← Int.natCast_mul, Int.toNat_natCast]
  have H1 := new_any (S : Int) (Q : Int)
  rw [hnew] at H1
  have hL1 : 1 ≤ S * Q := Nat.mul_pos hS1.1 hQ1.1
  have hL2 : S * Q ≤ 256 := Nat.mul_le_mul hS1.2 hQ1.2
  have hvf : valid ⟨S, List.replicate (S * Q) 255⟩ = true := by
    unfold valid
    simp only [List.length_replicate, decide_eq_true_eq]
    have : S * 1 ≤ S * Q := Nat.mul_le_mul (Nat.le_refl S) hQ1.1
    refine ⟨by omega, by omega, by omega, by omega, ?_⟩
    rw [Int.natCast_mul]
    exact Int.mul_emod_right _ _
  generalize S * Q = L at *
  have hb : Below w.heap.size w w := Below.refl _ _
  have m1 : 1 + s1 % 64 = (S : Int) := hS.symm
  have m2 : 1 + s2 % 4 = (Q : Int) := hQ.symm
  clear hS hQ hnew
  simp only at H1
  by_cases hbig : L < data.length
  · have u1 : decide ((L : Int) < (data.length : Int)) = true := by simp; omega
    have u2 : decide (0 < L) = true := by simp; omega
    have u3 : ¬ L = 0 := by omega
    have u4 : ¬ (L : Int) = 0 := by omega
    go_enter Try.func5, Try.ntmps5
    go_wp2_with fail
    refine (head_any w).mono ?_
    rintro e W1 ⟨rfl, hn⟩
    replace hd := hd.agree (Agree.below hn)
    replace hb := hb.trans (hn.mono hb.size)
    clear hn
    go_wp2_with fail
    refine (H1 W1).mono ?_
    rintro e W2 ⟨A3, c3, rfl, hs3, hn⟩
    replace hs3 := hs3.mono (ok' := fun _ => True) (fun _ _ => trivial)
    simp only [List.length_replicate] at hs3
    replace hd := hd.agree (Agree.below hn)
    replace hb := hb.trans (hn.mono hb.size)
    clear hn
    go_wp2_with fail
    have hn : Below W2.heap.size W2 (W2.alloc (.cells #[.int .i64 ↑S, .slice A3 L c3] 24)) := (Below.refl _ W2).alloc (Nat.le_refl _) _
    have X1 := BoxAt.new W2 ↑S (.slice A3 L c3)
    generalize hW : (W2.alloc (.cells #[.int .i64 ↑S, .slice A3 L c3] 24)) = W3 at *
    clear hW
    replace hd := hd.agree (Agree.below hn)
    replace hs3 := hs3.agree (Agree.below hn)
    replace hb := hb.trans (hn.mono hb.size)
    clear hn
    go_ret
    exact ⟨rfl, hb⟩
  · have u1 : decide ((L : Int) < (data.length : Int)) = false := by simp; omega
    have u2 : decide (0 < L) = true := by simp; omega
    have u3 : ¬ L = 0 := by omega
    have u4 : ¬ (L : Int) = 0 := by omega
    obtain ⟨k, hk⟩ : ∃ k : Nat, (k : Int) = a % ((L : Int) - (data.length : Int) + 1) := ⟨(a % ((L : Int) - (data.length : Int) + 1)).toNat, Int.toNat_of_nonneg (Int.emod_nonneg _ (by omega))⟩
    have hk2 : k + data.length ≤ L := by
      have := Int.emod_lt_of_pos a (show (0 : Int) < (L : Int) - (data.length : Int) + 1 by omega)
      omega
    have m3 : a % ((L : Int) - (data.length : Int) + 1) = (k : Int) := hk.symm
    have hdn := done_fits (f := ⟨S, List.replicate L 255⟩) (s := (k : Int)) (data := data) hvf (by omega) (by simp only [List.length_replicate]; omega)
    rw [Int.toNat_natCast] at hdn
    have hg := upd_full L k data
    have hgl : (upd (List.replicate L 255) k data.length (andWith data)).length = L := by simp
    generalize upd (List.replicate L 255) k data.length (andWith data) = gb at *
    simp only at hdn
    clear hk hvf
    go_enter Try.func5, Try.ntmps5
    go_wp2_with fail
    refine (head_any w).mono ?_
    rintro e W1 ⟨rfl, hn⟩
    replace hd := hd.agree (Agree.below hn)
    replace hb := hb.trans (hn.mono hb.size)
    clear hn
    go_wp2_with fail
    refine (H1 W1).mono ?_
    rintro e W2 ⟨A3, c3, rfl, hs3, hn⟩
    replace hs3 := hs3.mono (ok' := fun _ => True) (fun _ _ => trivial)
    simp only [List.length_replicate] at hs3
    replace hd := hd.agree (Agree.below hn)
    replace hb := hb.trans (hn.mono hb.size)
    clear hn
    go_wp2_with fail
    have hn : Below W2.heap.size W2 (W2.alloc (.cells #[.int .i64 ↑S, .slice A3 L c3] 24)) := (Below.refl _ W2).alloc (Nat.le_refl _) _
    have X1 := BoxAt.new W2 ↑S (.slice A3 L c3)
    generalize hW : (W2.alloc (.cells #[.int .i64 ↑S, .slice A3 L c3] 24)) = W3 at *
    clear hW
    replace hd := hd.agree (Agree.below hn)
    replace hs3 := hs3.agree (Agree.below hn)
    replace hb := hb.trans (hn.mono hb.size)
    clear hn
    have D := done_any (fun _ => True) ⟨S, List.replicate L 255⟩ A3 c3 (k : Int) data A2 c2 W3 (by simp only [List.length_replicate]; exact hs3) (hd.mono (fun _ _ => trivial)) (by omega)
    rw [hdn] at D
    simp only [List.length_replicate, hgl] at D
    refine (D).mono ?_
    rintro e W4 ⟨A4, c4, rfl, hs4, hn⟩
    clear D
    replace X1 := X1.below hn
    replace hd := hd.agree (Agree.below hn)
    replace hs3 := hs3.agree (Agree.below hn)
    replace hb := hb.trans (hn.mono hb.size)
    clear hn
    have X1a := X1.at0
    have X1b := X1.at1
    have X1c := X1.lt
    go_wp2_with fail
    clear X1a X1b X1c
    have hn : Below W4.heap.size W4 (W4.alloc (.cells #[.int .i64 ↑S, .slice A4 L c4] 24)) := (Below.refl _ W4).alloc (Nat.le_refl _) _
    have X2 := BoxAt.new W4 ↑S (.slice A4 L c4)
    generalize hW : (W4.alloc (.cells #[.int .i64 ↑S, .slice A4 L c4] 24)) = W5 at *
    clear hW
    replace X1 := X1.below hn
    replace hd := hd.agree (Agree.below hn)
    replace hs3 := hs3.agree (Agree.below hn)
    replace hs4 := hs4.agree (Agree.below hn)
    replace hb := hb.trans (hn.mono hb.size)
    clear hn
    clear hs3 X1 X2
    go_loopw [89] (fun iv wr => ∃ (j : Nat), j ≤ L ∧ iv = .int .i64 j ∧ Below W5.heap.size W5 wr) (fun iv _ => L - (intOf iv).toNat)
    case atStart => exact ⟨0, Nat.zero_le _, rfl, Below.refl _ _⟩
    case round =>
      obtain ⟨j, hj, rfl, hbw⟩ := hrel
      by_cases hlt : j < L
      · obtain ⟨g1, o1, rfl, _, hg1, p1⟩ := bytes_open (hs4.agree (Agree.below hbw)) (by omega)
        have x1 := p1 j (by omega)
        have hgj := hg j hlt
        rw [List.getElem?_eq_getElem (by omega)] at hgj
        have r1 : (0 : Int) ≤ (j : Int) := by omega
        have r2 : (j : Int) < (L : Int) := by omega
        clear p1 hg hs4
        by_cases hin : k ≤ j ∧ j < k + data.length
        · obtain ⟨i, hi⟩ : ∃ i : Nat, j = k + i := ⟨j - k, by omega⟩
          subst hi
          obtain ⟨g2, o2, rfl, _, hg2, p2⟩ := bytes_open (hd.agree (Agree.below hbw)) (by omega)
          have x2 := p2 i (by omega)
          have r3 : (0 : Int) ≤ (i : Int) := by omega
          have r4 : (i : Int) < (data.length : Int) := by omega
          have r5 : ((k + i : Nat) : Int) - (k : Int) = (i : Int) := by omega
          have r6 : ¬ ((k + i : Nat) : Int) < (k : Int) := by omega
          have r7 : ((k + i : Nat) : Int) < (k : Int) + (data.length : Int) := by omega
          have hbe : ((gb[k + i]).toNat : Int) = ((data[i]).toNat : Int) := by
            rw [if_pos hin, Nat.add_sub_cancel_left, List.getD_eq_getElem?_getD, List.getElem?_eq_getElem (by omega)] at hgj
            simp only [Option.some.injEq, Option.getD_some] at hgj
            rw [hgj]
          clear hgj
          go_wp2
          refine ⟨⟨k + i + 1, by omega, by rw [show ((k + i + 1 : Nat) : Int) = (k : Int) + (i : Int) + 1 by omega], hbw⟩, ?_⟩
          simp [intOf]; omega
        · have hbe : ((gb[j]).toNat : Int) = 255 := by
            rw [if_neg hin] at hgj
            simp only [Option.some.injEq] at hgj
            rw [hgj]; rfl
          clear hgj
          by_cases hin2 : k ≤ j
          · have r6 : ¬ (j : Int) < (k : Int) := by omega
            have r7 : ¬ (j : Int) < (k : Int) + (data.length : Int) := by omega
            go_wp2
            refine ⟨⟨j + 1, by omega, by rw [show ((j + 1 : Nat) : Int) = (j : Int) + 1 by omega], hbw⟩, ?_⟩
            simp [intOf]; omega
          · have r6 : (j : Int) < (k : Int) := by omega
            go_wp2
            refine ⟨⟨j + 1, by omega, by rw [show ((j + 1 : Nat) : Int) = (j : Int) + 1 by omega], hbw⟩, ?_⟩
            simp [intOf]; omega
      · have hje : j = L := by omega
        subst hje
        go_wp2
        go_ret
        exact ⟨rfl, hb.trans (hbw.mono hb.size)⟩
end Go.Proofs.Ytdoehnnhbfmleaa
