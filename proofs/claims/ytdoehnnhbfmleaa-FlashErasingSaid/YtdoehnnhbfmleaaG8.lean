/- FlashErasing: the walk. -/
import Derived.Test.YtdoehnnhbfmleaaL2
import Derived.Test.YtdoehnnhbfmleaaL4
namespace Go.Proofs.Ytdoehnnhbfmleaa
open Go Go.RowKit Go.Shelf

/-- What an erasure does, from whatever memory in between. -/
theorem erasing_again (m qn : Nat) (bs : List UInt8) (hv : valid ⟨m, bs⟩ = true) (h1 : qn * m + m ≤ bs.length) (i : Nat) :
    ∃ l2, erase ⟨m, upd bs (qn * m) i toFF⟩ qn = (l2, 0) ∧ l2.length = m + 1 ∧ (i ≤ m → l2[m]? = some ⟨m, upd bs (qn * m) m toFF⟩) := by
  have h2 := erase_fits (f := ⟨m, upd bs (qn * m) i toFF⟩) (q := (qn : Int)) (by rw [valid_upd ⟨m, bs⟩]; exact hv) (by omega) (by simp only [upd_length]; rw [← Int.natCast_mul]; omega)
  refine ⟨_, h2, by simp, fun hi => ?_⟩
  have := steps_last ⟨m, upd bs (qn * m) i toFF⟩ (qn * m) m toFF
  simp only [← Int.natCast_mul, Int.toNat_natCast]
  rw [this]
  simp only [upd_again _ _ _ _ _ hi ff_again]

theorem erased_at (m qn : Nat) (bs : List UInt8) (hm : 0 < m) (j : Nat) (hj : j < bs.length) :
    (upd bs (qn * m) m toFF)[j]? = some (if j / m = qn then 255 else bs[j]) := by
  rw [upd_getElem?, List.getElem?_eq_getElem hj]
  have : (qn * m ≤ j ∧ j < qn * m + m) ↔ j / m = qn := by
    constructor
    · intro h
      exact Nat.div_eq_of_lt_le h.1 (by rw [Nat.succ_mul]; exact h.2)
    · intro h
      subst h
      have := Nat.div_add_mod j m
      have := Nat.mod_lt j hm
      rw [Nat.mul_comm m] at *
      omega
  simp only [Option.map_some, this, toFF]

set_option maxRecDepth 100000 in
set_option maxHeartbeats 1000000 in
theorem ferasing_any (ok : Ok) (f : Fl) (A : Option Addr) (c : Nat) (q stop : Int) (w : World) (hf : isSlice kU8 ok w (.slice A f.bytes.length c) f.bytes) (hst : 0 ≤ stop ∧ stop ≤ 65535) :
    Calls Try.prog 8 #[.agg #[.int .i64 f.sector, .slice A f.bytes.length c], .int .i64 q, .int .u16 stop] w fun e w' => e = .returned (.bool true) ∧ Below w.heap.size w w' := by
  have X0 := BoxAt.new w f.sector (.slice A f.bytes.length c)
  have hb : Below w.heap.size w (w.alloc (.cells #[.int .i64 f.sector, .slice A f.bytes.length c] 24)) := (Below.refl _ w).alloc (Nat.le_refl _) _
  replace hf := hf.agree (Agree.below hb)
  have H3 := fun W => erase_any ok f A c q W
  by_cases hbig : 300 < f.bytes.length
  · clear H3
    obtain ⟨s, bs⟩ := f
    simp only at *
    have u1 : decide ((300 : Int) < (bs.length : Int)) = true := by simp; omega
    go_enter Try.func8, Try.ntmps8
    go_wp2_with fail
    generalize hW : (w.alloc (.cells #[.int .i64 s, .slice A bs.length c] 24)) = W0 at *
    clear hW
    refine (head_any W0).mono ?_
    rintro e W1 ⟨rfl, hn⟩
    replace X0 := X0.below hn
    replace hf := hf.agree (Agree.below hn)
    replace hb := hb.trans (hn.mono hb.size)
    clear hn
    have X0a := X0.at0
    have X0b := X0.at1
    have X0c := X0.lt
    go_wp2_with fail
    clear X0a X0b X0c
    go_ret
    exact ⟨rfl, hb⟩
  rcases erase_cases f q with hp | ⟨hv, ha0, ha1, hp⟩
  · rw [hp] at H3
    obtain ⟨s, bs⟩ := f
    simp only at *
    have u1 : decide ((300 : Int) < (bs.length : Int)) = false := by simp; omega
    go_enter Try.func8, Try.ntmps8
    go_wp2_with fail
    generalize hW : (w.alloc (.cells #[.int .i64 s, .slice A bs.length c] 24)) = W0 at *
    clear hW
    refine (head_any W0).mono ?_
    rintro e W1 ⟨rfl, hn⟩
    replace X0 := X0.below hn
    replace hf := hf.agree (Agree.below hn)
    replace hb := hb.trans (hn.mono hb.size)
    clear hn
    have X0a := X0.at0
    have X0b := X0.at1
    have X0c := X0.lt
    go_wp2_with fail
    clear X0a X0b X0c
    refine (H3 W1 hf).mono ?_
    rintro e W2 ⟨A5, c5, rfl, hs5, hn⟩
    replace X0 := X0.below hn
    replace hf := hf.agree (Agree.below hn)
    replace hb := hb.trans (hn.mono hb.size)
    clear hn
    have X0a := X0.at0
    have X0b := X0.at1
    have X0c := X0.lt
    go_wp2_with fail
    clear X0a X0b X0c
    go_ret
    exact ⟨rfl, hb⟩
  · rw [hp] at H3
    obtain ⟨s, bs⟩ := f
    have hll := valid_len hv
    simp only at *
    obtain ⟨m, rfl⟩ : ∃ m : Nat, s = (m : Int) := ⟨s.toNat, by omega⟩
    obtain ⟨qn, rfl⟩ : ∃ n : Nat, q = (n : Int) := ⟨q.toNat, by omega⟩
    rw [← Int.natCast_mul] at ha1 H3
    have ha2 : qn * m + m ≤ bs.length := by omega
    simp only [Int.toNat_natCast] at H3
    obtain ⟨i, hi⟩ : ∃ i : Nat, (i : Int) = stop % ((m : Int) + 1) := ⟨(stop % ((m : Int) + 1)).toNat, Int.toNat_of_nonneg (Int.emod_nonneg _ (by omega))⟩
    have hi2 : i < m + 1 := by
      have := Int.emod_lt_of_pos stop (show (0 : Int) < (m : Int) + 1 by omega)
      omega
    have hsl := steps_last ⟨m, bs⟩ (qn * m) m toFF
    have hln := steps_length ⟨m, bs⟩ (qn * m) m toFF
    have hgi := steps_get ⟨m, bs⟩ (qn * m) m toFF i (by rw [hln]; exact hi2)
    obtain ⟨l2, he2, hln2, hsl2⟩ := erasing_again m qn bs hv ha2 i
    replace hsl2 := hsl2 (by omega)
    simp only at hsl hgi
    rw [← hgi] at he2
    have hat := erased_at m qn bs (by omega)
    have hgl : (upd bs (qn * m) m toFF).length = bs.length := by simp
    generalize steps ⟨m, bs⟩ (qn * m) m toFF = l at *
    generalize upd bs (qn * m) m toFF = gb at *
    clear hgi hp hv
    have hix : i < l.length := by omega
    have hme : IntKind.i64.wrap ((m : Int) + 1) = (m : Int) + 1 := IntWalk.i64_in _ (by omega)
    have hmr : stop % ((m : Int) + 1) = (i : Int) := hi.symm
    clear hi
    have u1 : decide ((300 : Int) < (bs.length : Int)) = false := by simp; omega
    go_enter Try.func8, Try.ntmps8
    go_wp2_with fail
    generalize hW : (w.alloc (.cells #[.int .i64 ↑m, .slice A bs.length c] 24)) = W0 at *
    clear hW
    refine (head_any W0).mono ?_
    rintro e W1 ⟨rfl, hn⟩
    replace X0 := X0.below hn
    replace hf := hf.agree (Agree.below hn)
    replace hb := hb.trans (hn.mono hb.size)
    clear hn
    have X0a := X0.at0
    have X0b := X0.at1
    have X0c := X0.lt
    go_wp2_with fail
    clear X0a X0b X0c
    refine (H3 W1 hf).mono ?_
    rintro e W2 ⟨A5, c5, rfl, hs5, hn⟩
    replace hs5 := hs5.mono (ok' := fun _ => True) (fun _ _ => trivial)
    replace X0 := X0.below hn
    replace hf := hf.agree (Agree.below hn)
    replace hb := hb.trans (hn.mono hb.size)
    clear hn
    have HL := last_ok (fun _ => True) l A5 c5 m ⟨m, gb⟩ W2 hs5 hln hsl (by omega)
    rw [hln] at HL
    simp only [hgl] at HL
    have X0a := X0.at0
    have X0b := X0.at1
    have X0c := X0.lt
    go_wp2_with fail
    clear X0a X0b X0c
    refine (HL).mono ?_
    rintro e W3 ⟨A6, c6, rfl, hs6, hn⟩
    clear HL
    replace X0 := X0.below hn
    replace hf := hf.agree (Agree.below hn)
    replace hs5 := hs5.agree (Agree.below hn)
    replace hb := hb.trans (hn.mono hb.size)
    clear hn
    have u5 : ¬ (qn : Int) < 0 := by omega
    have X0a := X0.at0
    have X0b := X0.at1
    have X0c := X0.lt
    go_wp2_with fail
    clear X0a X0b X0c
    have hn : Below W3.heap.size W3 (W3.alloc (.cells #[.int .i64 ↑m, .slice A6 bs.length c6] 24)) := (Below.refl _ W3).alloc (Nat.le_refl _) _
    have X1 := BoxAt.new W3 ↑m (.slice A6 bs.length c6)
    generalize hW : (W3.alloc (.cells #[.int .i64 ↑m, .slice A6 bs.length c6] 24)) = W4 at *
    clear hW
    replace X0 := X0.below hn
    replace hf := hf.agree (Agree.below hn)
    replace hs5 := hs5.agree (Agree.below hn)
    replace hs6 := hs6.agree (Agree.below hn)
    replace hb := hb.trans (hn.mono hb.size)
    clear hn
    go_loopw [65] (fun iv wr => ∃ (j : Nat), j ≤ bs.length ∧ iv = .int .i64 j ∧ Below W4.heap.size W4 wr) (fun iv _ => bs.length - (intOf iv).toNat)
    case atStart => exact ⟨0, Nat.zero_le _, rfl, Below.refl _ _⟩
    case round =>
      obtain ⟨j, hj, rfl, hbw⟩ := hrel
      replace X0 := X0.below hbw
      by_cases hlt : j < bs.length
      · obtain ⟨g1, o1, rfl, _, hg1, p1⟩ := bytes_open (hs6.agree (Agree.below hbw)) (by omega)
        obtain ⟨g2, o2, rfl, _, hg2, p2⟩ := bytes_open (hf.agree (Agree.below hbw)) (by omega)
        have x1 := p1 j (by omega)
        have x2 := p2 j hlt
        have hgj := hat j hlt
        rw [List.getElem?_eq_getElem (by omega)] at hgj
        simp only [Option.some.injEq] at hgj
        have r1 : (0 : Int) ≤ (j : Int) := by omega
        have r2 : (j : Int) < (bs.length : Int) := by omega
        have X0a := X0.at0
        have X0b := X0.at1
        have X0c := X0.lt
        have r3 : ¬ m = 0 := by omega
        have r4 : ¬ (m : Int) = 0 := by omega
        clear p1 p2 hat hs6 hs5 X1 hf H3 hsl hsl2 he2
        have hdj : j / m ≤ j := Nat.div_le_self _ _
        have r5 : wrap64 ((j : Int) / (m : Int)) = ((j / m : Nat) : Int) := by rw [← Int.natCast_ediv]; generalize j / m = d at hdj ⊢; exact IntWalk.wrap64_in _ (by omega)
        generalize j / m = d at *
        by_cases hin : d = qn
        · have hbe : ((gb[j]).toNat : Int) = 255 := by
            rw [if_pos hin] at hgj
            rw [hgj]; rfl
          subst hin
          clear hgj
          go_wp2
          refine ⟨⟨j + 1, by omega, by rw [show ((j + 1 : Nat) : Int) = (j : Int) + 1 by omega], hbw⟩, ?_⟩
          simp [intOf]; omega
        · have hbe : ((gb[j]).toNat : Int) = ((bs[j]).toNat : Int) := by
            rw [if_neg hin] at hgj
            rw [hgj]
          have r7 : ¬ (d : Int) = (qn : Int) := fun e => hin (Int.ofNat_inj.1 e)
          clear hgj
          go_wp2
          refine ⟨⟨j + 1, by omega, by rw [show ((j + 1 : Nat) : Int) = (j : Int) + 1 by omega], hbw⟩, ?_⟩
          simp [intOf]; omega
      · have hje : j = bs.length := by omega
        subst hje
        clear hat
        replace X1 := X1.below hbw
        replace hf := hf.agree (Agree.below hbw)
        replace hs5 := hs5.agree (Agree.below hbw)
        replace hs6 := hs6.agree (Agree.below hbw)
        replace hb := hb.trans (hbw.mono hb.size)
        clear hbw
        obtain ⟨g1, o1, A7, c7, rfl, hg1, p1, p2, hs7⟩ := slice_get hs5 i hix
        generalize hx : l[i] = x at *
        clear hx
        have H6 := erase_any (fun _ => True) x A7 c7 (qn : Int) wr hs7
        rw [he2] at H6
        have hi0 : (0 : Int) ≤ (i : Int) := by omega
        have hi3 : (i : Int) < (m : Int) + 1 := by omega
        have hi4 : (i : Int) < ((m + 1 : Nat) : Int) := by omega
        clear H3
        have X0a := X0.at0
        have X0b := X0.at1
        have X0c := X0.lt
        have X1a := X1.at0
        have X1b := X1.at1
        have X1c := X1.lt
        go_wp2_with fail
        go_simp
        go_wp2_with fail
        clear X0a X0b X0c
        clear X1a X1b X1c
        refine (H6).mono ?_
        rintro e W5 ⟨A8, c8, rfl, hs8, hn⟩
        replace hs8 := hs8.mono (ok' := fun _ => True) (fun _ _ => trivial)
        clear H6 p1 p2 hs7
        replace X0 := X0.below hn
        replace X1 := X1.below hn
        replace hf := hf.agree (Agree.below hn)
        replace hs5 := hs5.agree (Agree.below hn)
        replace hs6 := hs6.agree (Agree.below hn)
        replace hb := hb.trans (hn.mono hb.size)
        clear hn
        have HL := last_ok (fun _ => True) l2 A8 c8 m ⟨m, gb⟩ W5 hs8 hln2 hsl2 (by omega)
        rw [hln2] at HL
        simp only [hgl] at HL
        have X0a := X0.at0
        have X0b := X0.at1
        have X0c := X0.lt
        have X1a := X1.at0
        have X1b := X1.at1
        have X1c := X1.lt
        go_wp2_with fail
        clear X0a X0b X0c
        clear X1a X1b X1c
        refine (HL).mono ?_
        rintro e W6 ⟨A9, c9, rfl, hs9, hn⟩
        clear HL
        replace X0 := X0.below hn
        replace X1 := X1.below hn
        replace hf := hf.agree (Agree.below hn)
        replace hs5 := hs5.agree (Agree.below hn)
        replace hs6 := hs6.agree (Agree.below hn)
        replace hs8 := hs8.agree (Agree.below hn)
        replace hb := hb.trans (hn.mono hb.size)
        clear hn
        have X0a := X0.at0
        have X0b := X0.at1
        have X0c := X0.lt
        have X1a := X1.at0
        have X1b := X1.at1
        have X1c := X1.lt
        go_wp2_with fail
        clear X0a X0b X0c
        clear X1a X1b X1c
        have hn : Below W6.heap.size W6 (W6.alloc (.cells #[.int .i64 ↑m, .slice A9 bs.length c9] 24)) := (Below.refl _ W6).alloc (Nat.le_refl _) _
        have X2 := BoxAt.new W6 ↑m (.slice A9 bs.length c9)
        generalize hW : (W6.alloc (.cells #[.int .i64 ↑m, .slice A9 bs.length c9] 24)) = W7 at *
        clear hW
        replace X0 := X0.below hn
        replace X1 := X1.below hn
        replace hf := hf.agree (Agree.below hn)
        replace hs5 := hs5.agree (Agree.below hn)
        replace hs6 := hs6.agree (Agree.below hn)
        replace hs8 := hs8.agree (Agree.below hn)
        replace hs9 := hs9.agree (Agree.below hn)
        replace hb := hb.trans (hn.mono hb.size)
        clear hn
        have SS := same_any (fun _ => True) ⟨m, gb⟩ ⟨m, gb⟩ A9 A6 c9 c6 W7 (by simp only [hgl]; exact hs9) (by simp only [hgl]; exact hs6) (by show gb.length ≤ 1000000; rw [hgl]; omega)
        rw [show decide ((⟨m, gb⟩ : Fl) = ⟨m, gb⟩) = true from by simp] at SS
        simp only [hgl] at SS
        have X0a := X0.at0
        have X0b := X0.at1
        have X0c := X0.lt
        have X1a := X1.at0
        have X1b := X1.at1
        have X1c := X1.lt
        have X2a := X2.at0
        have X2b := X2.at1
        have X2c := X2.lt
        go_wp2_with fail
        clear X0a X0b X0c
        clear X1a X1b X1c
        clear X2a X2b X2c
        refine (SS).mono ?_
        rintro e W8 ⟨rfl, hn⟩
        clear SS
        replace X0 := X0.below hn
        replace X1 := X1.below hn
        replace X2 := X2.below hn
        replace hf := hf.agree (Agree.below hn)
        replace hs5 := hs5.agree (Agree.below hn)
        replace hs6 := hs6.agree (Agree.below hn)
        replace hs8 := hs8.agree (Agree.below hn)
        replace hs9 := hs9.agree (Agree.below hn)
        replace hb := hb.trans (hn.mono hb.size)
        clear hn
        have X0a := X0.at0
        have X0b := X0.at1
        have X0c := X0.lt
        have X1a := X1.at0
        have X1b := X1.at1
        have X1c := X1.lt
        have X2a := X2.at0
        have X2b := X2.at1
        have X2c := X2.lt
        go_wp2_with fail
        clear X0a X0b X0c
        clear X1a X1b X1c
        clear X2a X2b X2c
        go_ret
        exact ⟨rfl, hb⟩
end Go.Proofs.Ytdoehnnhbfmleaa
