/- FlashAgain: the walk. -/
import Derived.Test.YtdoehnnhbfmleaaL2
import Derived.Test.YtdoehnnhbfmleaaL4
namespace Go.Proofs.Ytdoehnnhbfmleaa
open Go Go.RowKit Go.Shelf

set_option maxRecDepth 100000 in
set_option maxHeartbeats 1000000 in
theorem fagain_any (ok : Ok) (f : Fl) (A : Option Addr) (c : Nat) (at_ : Int) (data : List UInt8) (A2 : Option Addr) (c2 : Nat) (stop : Int) (w : World) (hf : isSlice kU8 ok w (.slice A f.bytes.length c) f.bytes) (hd : isSlice kU8 ok w (.slice A2 data.length c2) data) (hst : 0 ≤ stop ∧ stop ≤ 65535) :
    Calls Try.prog 6 #[.agg #[.int .i64 f.sector, .slice A f.bytes.length c], .int .i64 at_, .slice A2 data.length c2, .int .u16 stop] w fun e w' => e = .returned (.bool true) ∧ Below w.heap.size w w' := by
  have X0 := BoxAt.new w f.sector (.slice A f.bytes.length c)
  have hb : Below w.heap.size w (w.alloc (.cells #[.int .i64 f.sector, .slice A f.bytes.length c] 24)) := (Below.refl _ w).alloc (Nat.le_refl _) _
  replace hf := hf.agree (Agree.below hb)
  replace hd := hd.agree (Agree.below hb)
  have H3 := fun W => program_any ok f A c at_ data A2 c2 W
  by_cases hbig : 300 < f.bytes.length
  · clear H3
    obtain ⟨s, bs⟩ := f
    simp only at *
    have u1 : decide ((300 : Int) < (bs.length : Int)) = true := by simp; omega
    go_enter Try.func6, Try.ntmps6
    go_wp2_with fail
    generalize hW : (w.alloc (.cells #[.int .i64 s, .slice A bs.length c] 24)) = W0 at *
    clear hW
    refine (head_any W0).mono ?_
    rintro e W1 ⟨rfl, hn⟩
    replace X0 := X0.below hn
    replace hf := hf.agree (Agree.below hn)
    replace hd := hd.agree (Agree.below hn)
    replace hb := hb.trans (hn.mono hb.size)
    clear hn
    have X0a := X0.at0
    have X0b := X0.at1
    have X0c := X0.lt
    go_wp2_with fail
    clear X0a X0b X0c
    go_ret
    exact ⟨rfl, hb⟩
  by_cases hbig2 : 300 < data.length
  · clear H3
    obtain ⟨s, bs⟩ := f
    simp only at *
    have u1 : decide ((300 : Int) < (bs.length : Int)) = false := by simp; omega
    have u2 : decide ((300 : Int) < (data.length : Int)) = true := by simp; omega
    go_enter Try.func6, Try.ntmps6
    go_wp2_with fail
    generalize hW : (w.alloc (.cells #[.int .i64 s, .slice A bs.length c] 24)) = W0 at *
    clear hW
    refine (head_any W0).mono ?_
    rintro e W1 ⟨rfl, hn⟩
    replace X0 := X0.below hn
    replace hf := hf.agree (Agree.below hn)
    replace hd := hd.agree (Agree.below hn)
    replace hb := hb.trans (hn.mono hb.size)
    clear hn
    have X0a := X0.at0
    have X0b := X0.at1
    have X0c := X0.lt
    go_wp2_with fail
    clear X0a X0b X0c
    go_ret
    exact ⟨rfl, hb⟩
  rcases program_cases f at_ data with ⟨e, he, hp⟩ | ⟨hv, ha0, ha1, hp⟩
  · rw [hp] at H3
    obtain ⟨s, bs⟩ := f
    simp only at *
    have u1 : decide ((300 : Int) < (bs.length : Int)) = false := by simp; omega
    have u2 : decide ((300 : Int) < (data.length : Int)) = false := by simp; omega
    have he' : e ≠ 0 := by omega
    go_enter Try.func6, Try.ntmps6
    go_wp2_with fail
    generalize hW : (w.alloc (.cells #[.int .i64 s, .slice A bs.length c] 24)) = W0 at *
    clear hW
    refine (head_any W0).mono ?_
    rintro e W1 ⟨rfl, hn⟩
    replace X0 := X0.below hn
    replace hf := hf.agree (Agree.below hn)
    replace hd := hd.agree (Agree.below hn)
    replace hb := hb.trans (hn.mono hb.size)
    clear hn
    have X0a := X0.at0
    have X0b := X0.at1
    have X0c := X0.lt
    go_wp2_with fail
    clear X0a X0b X0c
    refine (H3 W1 hf hd).mono ?_
    rintro e W2 ⟨A5, c5, rfl, hs5, hn⟩
    replace X0 := X0.below hn
    replace hf := hf.agree (Agree.below hn)
    replace hd := hd.agree (Agree.below hn)
    replace hb := hb.trans (hn.mono hb.size)
    clear hn
    have X0a := X0.at0
    have X0b := X0.at1
    have X0c := X0.lt
    go_wp2_with fail
    clear X0a X0b X0c
    go_ret
    exact ⟨rfl, hb⟩
  · rw [hp] at H3
    have hll := valid_len hv
    obtain ⟨i, hi⟩ : ∃ i : Nat, (i : Int) = stop % ((data.length : Int) + 1) := ⟨(stop % ((data.length : Int) + 1)).toNat, Int.toNat_of_nonneg (Int.emod_nonneg _ (by omega))⟩
    have hi2 : i < data.length + 1 := by
      have := Int.emod_lt_of_pos stop (show (0 : Int) < (data.length : Int) + 1 by omega)
      omega
    have hsl := steps_last f at_.toNat data.length (andWith data)
    have hln := steps_length f at_.toNat data.length (andWith data)
    have hd1 := again_from hv ha0 ha1 i (by omega)
    have hd2 := again_from hv ha0 ha1 data.length (Nat.le_refl _)
    have hgi := steps_get f at_.toNat data.length (andWith data) i (by rw [hln]; exact hi2)
    have hgl : (upd f.bytes at_.toNat data.length (andWith data)).length ≤ 1000000 := by rw [upd_length]; omega
    rw [← hgi] at hd1
    generalize steps f at_.toNat data.length (andWith data) = l at *
    generalize hg : (⟨f.sector, upd f.bytes at_.toNat data.length (andWith data)⟩ : Fl) = g at *
    have hgl2 : g.bytes.length ≤ 1000000 := by rw [← hg]; exact hgl
    clear hgi hp hgl hg hv hll
    obtain ⟨s, bs⟩ := f
    obtain ⟨gs, gb⟩ := g
    simp only at *
    have hix : i < l.length := by omega
    have hme : IntKind.i64.wrap ((data.length : Int) + 1) = (data.length : Int) + 1 := IntWalk.i64_in _ (by omega)
    have hmr : stop % ((data.length : Int) + 1) = (i : Int) := hi.symm
    clear hi
    have u1 : decide ((300 : Int) < (bs.length : Int)) = false := by simp; omega
    have u2 : decide ((300 : Int) < (data.length : Int)) = false := by simp; omega
    go_enter Try.func6, Try.ntmps6
    go_wp2_with fail
    generalize hW : (w.alloc (.cells #[.int .i64 s, .slice A bs.length c] 24)) = W0 at *
    clear hW
    refine (head_any W0).mono ?_
    rintro e W1 ⟨rfl, hn⟩
    replace X0 := X0.below hn
    replace hf := hf.agree (Agree.below hn)
    replace hd := hd.agree (Agree.below hn)
    replace hb := hb.trans (hn.mono hb.size)
    clear hn
    have X0a := X0.at0
    have X0b := X0.at1
    have X0c := X0.lt
    go_wp2_with fail
    clear X0a X0b X0c
    refine (H3 W1 hf hd).mono ?_
    rintro e W2 ⟨A5, c5, rfl, hs5, hn⟩
    replace hs5 := hs5.mono (ok' := fun _ => True) (fun _ _ => trivial)
    replace X0 := X0.below hn
    replace hf := hf.agree (Agree.below hn)
    replace hd := hd.agree (Agree.below hn)
    replace hb := hb.trans (hn.mono hb.size)
    clear hn
    have HL := last_ok (fun _ => True) l A5 c5 data.length ⟨gs, gb⟩ W2 hs5 hln hsl (by omega)
    rw [hln] at HL
    have X0a := X0.at0
    have X0b := X0.at1
    have X0c := X0.lt
    go_wp2_with fail
    clear X0a X0b X0c
    refine (HL).mono ?_
    rintro e W3 ⟨A6, c6, rfl, hs6, hn⟩
    clear HL
    replace X0 := X0.below hn
    replace hf := hf.agree (Agree.below hn)
    replace hd := hd.agree (Agree.below hn)
    replace hs5 := hs5.agree (Agree.below hn)
    replace hb := hb.trans (hn.mono hb.size)
    clear hn
    have X0a := X0.at0
    have X0b := X0.at1
    have X0c := X0.lt
    go_wp2_with fail
    clear X0a X0b X0c
    have hn : Below W3.heap.size W3 (W3.alloc (.cells #[.int .i64 gs, .slice A6 gb.length c6] 24)) := (Below.refl _ W3).alloc (Nat.le_refl _) _
    have X1 := BoxAt.new W3 gs (.slice A6 gb.length c6)
    generalize hW : (W3.alloc (.cells #[.int .i64 gs, .slice A6 gb.length c6] 24)) = W4 at *
    clear hW
    replace X0 := X0.below hn
    replace hf := hf.agree (Agree.below hn)
    replace hd := hd.agree (Agree.below hn)
    replace hs5 := hs5.agree (Agree.below hn)
    replace hs6 := hs6.agree (Agree.below hn)
    replace hb := hb.trans (hn.mono hb.size)
    clear hn
    obtain ⟨g1, o1, A7, c7, rfl, hg1, p1, p2, hs7⟩ := slice_get hs5 i hix
    generalize hx : l[i] = x at *
    clear hx
    have D1 := done_any (fun _ => True) x A7 c7 at_ data A2 c2 W4 hs7 (hd.mono (fun _ _ => trivial)) (by omega)
    rw [hd1] at D1
    simp only at D1
    have hi0 : (0 : Int) ≤ (i : Int) := by omega
    have hi3 : (i : Int) < (data.length : Int) + 1 := by omega
    have hi4 : (i : Int) < ((data.length + 1 : Nat) : Int) := by omega
    have hi5 : (i : Int) ≤ (data.length : Int) := by omega
    have hi6 : i ≤ data.length := by omega
    have X0a := X0.at0
    have X0b := X0.at1
    have X0c := X0.lt
    have X1a := X1.at0
    have X1b := X1.at1
    have X1c := X1.lt
    go_wp2_with fail
    go_simp
    go_wp2_with fail
    clear X0a X0b X0c
    clear X1a X1b X1c
    refine (D1).mono ?_
    rintro e W5 ⟨A8, c8, rfl, hs8, hn⟩
    clear D1 p1 p2
    replace X0 := X0.below hn
    replace X1 := X1.below hn
    replace hf := hf.agree (Agree.below hn)
    replace hd := hd.agree (Agree.below hn)
    replace hs5 := hs5.agree (Agree.below hn)
    replace hs6 := hs6.agree (Agree.below hn)
    replace hs7 := hs7.agree (Agree.below hn)
    replace hb := hb.trans (hn.mono hb.size)
    clear hn
    have X0a := X0.at0
    have X0b := X0.at1
    have X0c := X0.lt
    have X1a := X1.at0
    have X1b := X1.at1
    have X1c := X1.lt
    go_wp2_with fail
    clear X0a X0b X0c
    clear X1a X1b X1c
    have hn : Below W5.heap.size W5 (W5.alloc (.cells #[.int .i64 gs, .slice A8 gb.length c8] 24)) := (Below.refl _ W5).alloc (Nat.le_refl _) _
    have X2 := BoxAt.new W5 gs (.slice A8 gb.length c8)
    generalize hW : (W5.alloc (.cells #[.int .i64 gs, .slice A8 gb.length c8] 24)) = W6 at *
    clear hW
    replace X0 := X0.below hn
    replace X1 := X1.below hn
    replace hf := hf.agree (Agree.below hn)
    replace hd := hd.agree (Agree.below hn)
    replace hs5 := hs5.agree (Agree.below hn)
    replace hs6 := hs6.agree (Agree.below hn)
    replace hs7 := hs7.agree (Agree.below hn)
    replace hs8 := hs8.agree (Agree.below hn)
    replace hb := hb.trans (hn.mono hb.size)
    clear hn
    have X0a := X0.at0
    have X0b := X0.at1
    have X0c := X0.lt
    have X1a := X1.at0
    have X1b := X1.at1
    have X1c := X1.lt
    have X2a := X2.at0
    have X2b := X2.at1
    have X2c := X2.lt
    go_wp2_with fail
    clear X0a X0b X0c
    clear X1a X1b X1c
    clear X2a X2b X2c
    have D2 := done_any (fun _ => True) ⟨gs, gb⟩ A6 c6 at_ data A2 c2 W6 hs6 (hd.mono (fun _ _ => trivial)) (by omega)
    rw [hd2] at D2
    simp only at D2
    refine (D2).mono ?_
    rintro e W7 ⟨A9, c9, rfl, hs9, hn⟩
    clear D2
    replace X0 := X0.below hn
    replace X1 := X1.below hn
    replace X2 := X2.below hn
    replace hf := hf.agree (Agree.below hn)
    replace hd := hd.agree (Agree.below hn)
    replace hs5 := hs5.agree (Agree.below hn)
    replace hs6 := hs6.agree (Agree.below hn)
    replace hs7 := hs7.agree (Agree.below hn)
    replace hs8 := hs8.agree (Agree.below hn)
    replace hb := hb.trans (hn.mono hb.size)
    clear hn
    have X0a := X0.at0
    have X0b := X0.at1
    have X0c := X0.lt
    have X1a := X1.at0
    have X1b := X1.at1
    have X1c := X1.lt
    have X2a := X2.at0
    have X2b := X2.at1
    have X2c := X2.lt
    go_wp2_with fail
    clear X0a X0b X0c
    clear X1a X1b X1c
    clear X2a X2b X2c
    have hn : Below W7.heap.size W7 (W7.alloc (.cells #[.int .i64 gs, .slice A9 gb.length c9] 24)) := (Below.refl _ W7).alloc (Nat.le_refl _) _
    have X3 := BoxAt.new W7 gs (.slice A9 gb.length c9)
    generalize hW : (W7.alloc (.cells #[.int .i64 gs, .slice A9 gb.length c9] 24)) = W8 at *
    clear hW
    replace X0 := X0.below hn
    replace X1 := X1.below hn
    replace X2 := X2.below hn
    replace hf := hf.agree (Agree.below hn)
    replace hd := hd.agree (Agree.below hn)
    replace hs5 := hs5.agree (Agree.below hn)
    replace hs6 := hs6.agree (Agree.below hn)
    replace hs7 := hs7.agree (Agree.below hn)
    replace hs8 := hs8.agree (Agree.below hn)
    replace hs9 := hs9.agree (Agree.below hn)
    replace hb := hb.trans (hn.mono hb.size)
    clear hn
    have X0a := X0.at0
    have X0b := X0.at1
    have X0c := X0.lt
    have X1a := X1.at0
    have X1b := X1.at1
    have X1c := X1.lt
    have X2a := X2.at0
    have X2b := X2.at1
    have X2c := X2.lt
    have X3a := X3.at0
    have X3b := X3.at1
    have X3c := X3.lt
    go_wp2_with fail
    clear X0a X0b X0c
    clear X1a X1b X1c
    clear X2a X2b X2c
    clear X3a X3b X3c
    have SS := same_any (fun _ => True) ⟨gs, gb⟩ ⟨gs, gb⟩ A8 A6 c8 c6 W8 hs8 hs6 hgl2
    rw [show decide ((⟨gs, gb⟩ : Fl) = ⟨gs, gb⟩) = true from by simp] at SS
    refine (SS).mono ?_
    rintro e W9 ⟨rfl, hn⟩
    clear SS
    replace X0 := X0.below hn
    replace X1 := X1.below hn
    replace X2 := X2.below hn
    replace X3 := X3.below hn
    replace hf := hf.agree (Agree.below hn)
    replace hd := hd.agree (Agree.below hn)
    replace hs5 := hs5.agree (Agree.below hn)
    replace hs6 := hs6.agree (Agree.below hn)
    replace hs7 := hs7.agree (Agree.below hn)
    replace hs8 := hs8.agree (Agree.below hn)
    replace hs9 := hs9.agree (Agree.below hn)
    replace hb := hb.trans (hn.mono hb.size)
    clear hn
    have X0a := X0.at0
    have X0b := X0.at1
    have X0c := X0.lt
    have X1a := X1.at0
    have X1b := X1.at1
    have X1c := X1.lt
    have X2a := X2.at0
    have X2b := X2.at1
    have X2c := X2.lt
    have X3a := X3.at0
    have X3b := X3.at1
    have X3c := X3.lt
    go_wp2_with fail
    clear X0a X0b X0c
    clear X1a X1b X1c
    clear X2a X2b X2c
    clear X3a X3b X3c
    have SS := same_any (fun _ => True) ⟨gs, gb⟩ ⟨gs, gb⟩ A9 A6 c9 c6 W9 hs9 hs6 hgl2
    rw [show decide ((⟨gs, gb⟩ : Fl) = ⟨gs, gb⟩) = true from by simp] at SS
    refine (SS).mono ?_
    rintro e W10 ⟨rfl, hn⟩
    clear SS
    replace X0 := X0.below hn
    replace X1 := X1.below hn
    replace X2 := X2.below hn
    replace X3 := X3.below hn
    replace hf := hf.agree (Agree.below hn)
    replace hd := hd.agree (Agree.below hn)
    replace hs5 := hs5.agree (Agree.below hn)
    replace hs6 := hs6.agree (Agree.below hn)
    replace hs7 := hs7.agree (Agree.below hn)
    replace hs8 := hs8.agree (Agree.below hn)
    replace hs9 := hs9.agree (Agree.below hn)
    replace hb := hb.trans (hn.mono hb.size)
    clear hn
    have X0a := X0.at0
    have X0b := X0.at1
    have X0c := X0.lt
    have X1a := X1.at0
    have X1b := X1.at1
    have X1c := X1.lt
    have X2a := X2.at0
    have X2b := X2.at1
    have X2c := X2.lt
    have X3a := X3.at0
    have X3b := X3.at1
    have X3c := X3.lt
    go_wp2_with fail
    clear X0a X0b X0c
    clear X1a X1b X1c
    clear X2a X2b X2c
    clear X3a X3b X3c
    go_ret
    exact ⟨rfl, hb⟩
end Go.Proofs.Ytdoehnnhbfmleaa
