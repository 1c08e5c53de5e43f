/- FlashMatchesReference: the walk. -/
import Derived.Test.YtdoehnnhbfmleaaL2
import Derived.Test.YtdoehnnhbfmleaaL0
namespace Go.Proofs.Ytdoehnnhbfmleaa
open Go Go.RowKit Go.Shelf

set_option maxRecDepth 100000 in
set_option maxHeartbeats 4000000 in
theorem fmatch_any (ok : Ok) (f : Fl) (A : Option Addr) (c : Nat) (at_ : Int) (data : List UInt8) (A2 : Option Addr) (c2 : Nat) (sec secs : Int) (w : World) (hf : isSlice kU8 ok w (.slice A f.bytes.length c) f.bytes) (hd : isSlice kU8 ok w (.slice A2 data.length c2) data) :
    Calls Try.prog 3 #[.agg #[.int .i64 f.sector, .slice A f.bytes.length c], .int .i64 at_, .slice A2 data.length c2, .int .i64 sec, .int .i64 secs] w fun e w' => e = .returned (.bool true) ∧ Below w.heap.size w w' := by
  have X0 := BoxAt.new w f.sector (.slice A f.bytes.length c)
  have hb : Below w.heap.size w (w.alloc (.cells #[.int .i64 f.sector, .slice A f.bytes.length c] 24)) := (Below.refl _ w).alloc (Nat.le_refl _) _
  replace hf := hf.agree (Agree.below hb)
  replace hd := hd.agree (Agree.below hb)
  have H1 := new_any sec secs
  have H2 := rnew_any sec secs
  have hnl := new_len sec secs
  generalize new sec secs = r at H1 H2 hnl
  obtain ⟨nf, ne⟩ := r
  have H3 := fun W => program_any ok f A c at_ data A2 c2 W
  have H4 := fun W => rprogram_any ok f A c at_ data A2 c2 W
  have hl1 := program_len f at_ data
  generalize program f at_ data = r at H3 H4 hl1
  obtain ⟨l1, e1⟩ := r
  have H5 := fun W => erase_any ok f A c sec W
  have H6 := fun W => rerase_any ok f A c sec W
  have hl2 := erase_len f sec
  generalize erase f sec = r at H5 H6 hl2
  obtain ⟨l2, e2⟩ := r
  simp only at H1 H2 H3 H4 H5 H6 hnl hl1 hl2
  have V1 := valid_any f A c
  have V2 := rvalid_any f A c
  generalize valid f = vb at V1 V2
  obtain ⟨s, bs⟩ := f
  simp only at *
  obtain ⟨ns, nbs⟩ := nf
  simp only at *
  by_cases hbig : 300 < bs.length
  · skip
    have u1 : decide ((300 : Int) < (bs.length : Int)) = true := by simp; omega
    go_enter Try.func3, Try.ntmps3
    go_wp2_with fail
    generalize hW : (w.alloc (.cells #[.int .i64 s, .slice A bs.length c] 24)) = w1 at *
    clear hW
    refine (head_any w1).mono ?_
    rintro e w2 ⟨rfl, hn⟩
    replace X0 := X0.below hn
    replace hf := hf.agree (Agree.below hn)
    replace hd := hd.agree (Agree.below hn)
    replace hb := hb.trans (hn.mono hb.size)
    clear hn
    have X0a := X0.at0
    have X0b := X0.at1
    have X0c := X0.lt
    go_wp2_with fail
    clear X0a X0b X0c
    refine (H1 w2).mono ?_
    rintro e w3 ⟨A3, c3, rfl, hs3, hn⟩
    replace hs3 := hs3.mono (ok' := fun _ => True) (fun _ _ => trivial)
    replace X0 := X0.below hn
    replace hf := hf.agree (Agree.below hn)
    replace hd := hd.agree (Agree.below hn)
    replace hb := hb.trans (hn.mono hb.size)
    clear hn
    have X0a := X0.at0
    have X0b := X0.at1
    have X0c := X0.lt
    go_wp2_with fail
    clear X0a X0b X0c
    have hn : Below w3.heap.size w3 (w3.alloc (.cells #[.int .i64 ns, .slice A3 nbs.length c3] 24)) := (Below.refl _ w3).alloc (Nat.le_refl _) _
    have X1 := BoxAt.new w3 ns (.slice A3 nbs.length c3)
    generalize hW : (w3.alloc (.cells #[.int .i64 ns, .slice A3 nbs.length c3] 24)) = w4 at *
    clear hW
    replace X0 := X0.below hn
    replace hf := hf.agree (Agree.below hn)
    replace hd := hd.agree (Agree.below hn)
    replace hs3 := hs3.agree (Agree.below hn)
    replace hb := hb.trans (hn.mono hb.size)
    clear hn
    refine (H2 w4).mono ?_
    rintro e w5 ⟨A4, c4, rfl, hs4, hn⟩
    replace hs4 := hs4.mono (ok' := fun _ => True) (fun _ _ => trivial)
    replace X0 := X0.below hn
    replace X1 := X1.below hn
    replace hf := hf.agree (Agree.below hn)
    replace hd := hd.agree (Agree.below hn)
    replace hs3 := hs3.agree (Agree.below hn)
    replace hb := hb.trans (hn.mono hb.size)
    clear hn
    have X0a := X0.at0
    have X0b := X0.at1
    have X0c := X0.lt
    have X1a := X1.at0
    have X1b := X1.at1
    have X1c := X1.lt
    go_wp2_with fail
    clear X0a X0b X0c
    clear X1a X1b X1c
    have hn : Below w5.heap.size w5 (w5.alloc (.cells #[.int .i64 ns, .slice A4 nbs.length c4] 24)) := (Below.refl _ w5).alloc (Nat.le_refl _) _
    have X2 := BoxAt.new w5 ns (.slice A4 nbs.length c4)
    generalize hW : (w5.alloc (.cells #[.int .i64 ns, .slice A4 nbs.length c4] 24)) = w6 at *
    clear hW
    replace X0 := X0.below hn
    replace X1 := X1.below hn
    replace hf := hf.agree (Agree.below hn)
    replace hd := hd.agree (Agree.below hn)
    replace hs3 := hs3.agree (Agree.below hn)
    replace hs4 := hs4.agree (Agree.below hn)
    replace hb := hb.trans (hn.mono hb.size)
    clear hn
    have CC := same_any (fun _ => True) ⟨ns, nbs⟩ ⟨ns, nbs⟩ A3 A4 c3 c4 w6 hs3 hs4 hnl
    rw [show decide ((⟨ns, nbs⟩ : Fl) = ⟨ns, nbs⟩) = true from by simp] at CC
    refine (CC).mono ?_
    rintro e w7 ⟨rfl, hn⟩
    clear CC
    replace X0 := X0.below hn
    replace X1 := X1.below hn
    replace X2 := X2.below hn
    replace hf := hf.agree (Agree.below hn)
    replace hd := hd.agree (Agree.below hn)
    replace hs3 := hs3.agree (Agree.below hn)
    replace hs4 := hs4.agree (Agree.below hn)
    replace hb := hb.trans (hn.mono hb.size)
    clear hn
    clear X1
    clear X2
    clear hs3
    clear hs4
    have X0a := X0.at0
    have X0b := X0.at1
    have X0c := X0.lt
    go_wp2_with fail
    clear X0a X0b X0c
    go_ret
    exact ⟨rfl, hb⟩
  by_cases hbig2 : 300 < data.length
  · skip
    have u1 : decide ((300 : Int) < (bs.length : Int)) = false := by simp; omega
    have u2 : decide ((300 : Int) < (data.length : Int)) = true := by simp; omega
    go_enter Try.func3, Try.ntmps3
    go_wp2_with fail
    generalize hW : (w.alloc (.cells #[.int .i64 s, .slice A bs.length c] 24)) = w1 at *
    clear hW
    refine (head_any w1).mono ?_
    rintro e w2 ⟨rfl, hn⟩
    replace X0 := X0.below hn
    replace hf := hf.agree (Agree.below hn)
    replace hd := hd.agree (Agree.below hn)
    replace hb := hb.trans (hn.mono hb.size)
    clear hn
    have X0a := X0.at0
    have X0b := X0.at1
    have X0c := X0.lt
    go_wp2_with fail
    clear X0a X0b X0c
    refine (H1 w2).mono ?_
    rintro e w3 ⟨A3, c3, rfl, hs3, hn⟩
    replace hs3 := hs3.mono (ok' := fun _ => True) (fun _ _ => trivial)
    replace X0 := X0.below hn
    replace hf := hf.agree (Agree.below hn)
    replace hd := hd.agree (Agree.below hn)
    replace hb := hb.trans (hn.mono hb.size)
    clear hn
    have X0a := X0.at0
    have X0b := X0.at1
    have X0c := X0.lt
    go_wp2_with fail
    clear X0a X0b X0c
    have hn : Below w3.heap.size w3 (w3.alloc (.cells #[.int .i64 ns, .slice A3 nbs.length c3] 24)) := (Below.refl _ w3).alloc (Nat.le_refl _) _
    have X1 := BoxAt.new w3 ns (.slice A3 nbs.length c3)
    generalize hW : (w3.alloc (.cells #[.int .i64 ns, .slice A3 nbs.length c3] 24)) = w4 at *
    clear hW
    replace X0 := X0.below hn
    replace hf := hf.agree (Agree.below hn)
    replace hd := hd.agree (Agree.below hn)
    replace hs3 := hs3.agree (Agree.below hn)
    replace hb := hb.trans (hn.mono hb.size)
    clear hn
    refine (H2 w4).mono ?_
    rintro e w5 ⟨A4, c4, rfl, hs4, hn⟩
    replace hs4 := hs4.mono (ok' := fun _ => True) (fun _ _ => trivial)
    replace X0 := X0.below hn
    replace X1 := X1.below hn
    replace hf := hf.agree (Agree.below hn)
    replace hd := hd.agree (Agree.below hn)
    replace hs3 := hs3.agree (Agree.below hn)
    replace hb := hb.trans (hn.mono hb.size)
    clear hn
    have X0a := X0.at0
    have X0b := X0.at1
    have X0c := X0.lt
    have X1a := X1.at0
    have X1b := X1.at1
    have X1c := X1.lt
    go_wp2_with fail
    clear X0a X0b X0c
    clear X1a X1b X1c
    have hn : Below w5.heap.size w5 (w5.alloc (.cells #[.int .i64 ns, .slice A4 nbs.length c4] 24)) := (Below.refl _ w5).alloc (Nat.le_refl _) _
    have X2 := BoxAt.new w5 ns (.slice A4 nbs.length c4)
    generalize hW : (w5.alloc (.cells #[.int .i64 ns, .slice A4 nbs.length c4] 24)) = w6 at *
    clear hW
    replace X0 := X0.below hn
    replace X1 := X1.below hn
    replace hf := hf.agree (Agree.below hn)
    replace hd := hd.agree (Agree.below hn)
    replace hs3 := hs3.agree (Agree.below hn)
    replace hs4 := hs4.agree (Agree.below hn)
    replace hb := hb.trans (hn.mono hb.size)
    clear hn
    have CC := same_any (fun _ => True) ⟨ns, nbs⟩ ⟨ns, nbs⟩ A3 A4 c3 c4 w6 hs3 hs4 hnl
    rw [show decide ((⟨ns, nbs⟩ : Fl) = ⟨ns, nbs⟩) = true from by simp] at CC
    refine (CC).mono ?_
    rintro e w7 ⟨rfl, hn⟩
    clear CC
    replace X0 := X0.below hn
    replace X1 := X1.below hn
    replace X2 := X2.below hn
    replace hf := hf.agree (Agree.below hn)
    replace hd := hd.agree (Agree.below hn)
    replace hs3 := hs3.agree (Agree.below hn)
    replace hs4 := hs4.agree (Agree.below hn)
    replace hb := hb.trans (hn.mono hb.size)
    clear hn
    clear X1
    clear X2
    clear hs3
    clear hs4
    have X0a := X0.at0
    have X0b := X0.at1
    have X0c := X0.lt
    go_wp2_with fail
    clear X0a X0b X0c
    go_ret
    exact ⟨rfl, hb⟩
  · skip
    have u1 : decide ((300 : Int) < (bs.length : Int)) = false := by simp; omega
    have u2 : decide ((300 : Int) < (data.length : Int)) = false := by simp; omega
    go_enter Try.func3, Try.ntmps3
    go_wp2_with fail
    generalize hW : (w.alloc (.cells #[.int .i64 s, .slice A bs.length c] 24)) = w1 at *
    clear hW
    refine (head_any w1).mono ?_
    rintro e w2 ⟨rfl, hn⟩
    replace X0 := X0.below hn
    replace hf := hf.agree (Agree.below hn)
    replace hd := hd.agree (Agree.below hn)
    replace hb := hb.trans (hn.mono hb.size)
    clear hn
    have X0a := X0.at0
    have X0b := X0.at1
    have X0c := X0.lt
    go_wp2_with fail
    clear X0a X0b X0c
    refine (H1 w2).mono ?_
    rintro e w3 ⟨A3, c3, rfl, hs3, hn⟩
    replace hs3 := hs3.mono (ok' := fun _ => True) (fun _ _ => trivial)
    replace X0 := X0.below hn
    replace hf := hf.agree (Agree.below hn)
    replace hd := hd.agree (Agree.below hn)
    replace hb := hb.trans (hn.mono hb.size)
    clear hn
    have X0a := X0.at0
    have X0b := X0.at1
    have X0c := X0.lt
    go_wp2_with fail
    clear X0a X0b X0c
    have hn : Below w3.heap.size w3 (w3.alloc (.cells #[.int .i64 ns, .slice A3 nbs.length c3] 24)) := (Below.refl _ w3).alloc (Nat.le_refl _) _
    have X1 := BoxAt.new w3 ns (.slice A3 nbs.length c3)
    generalize hW : (w3.alloc (.cells #[.int .i64 ns, .slice A3 nbs.length c3] 24)) = w4 at *
    clear hW
    replace X0 := X0.below hn
    replace hf := hf.agree (Agree.below hn)
    replace hd := hd.agree (Agree.below hn)
    replace hs3 := hs3.agree (Agree.below hn)
    replace hb := hb.trans (hn.mono hb.size)
    clear hn
    refine (H2 w4).mono ?_
    rintro e w5 ⟨A4, c4, rfl, hs4, hn⟩
    replace hs4 := hs4.mono (ok' := fun _ => True) (fun _ _ => trivial)
    replace X0 := X0.below hn
    replace X1 := X1.below hn
    replace hf := hf.agree (Agree.below hn)
    replace hd := hd.agree (Agree.below hn)
    replace hs3 := hs3.agree (Agree.below hn)
    replace hb := hb.trans (hn.mono hb.size)
    clear hn
    have X0a := X0.at0
    have X0b := X0.at1
    have X0c := X0.lt
    have X1a := X1.at0
    have X1b := X1.at1
    have X1c := X1.lt
    go_wp2_with fail
    clear X0a X0b X0c
    clear X1a X1b X1c
    have hn : Below w5.heap.size w5 (w5.alloc (.cells #[.int .i64 ns, .slice A4 nbs.length c4] 24)) := (Below.refl _ w5).alloc (Nat.le_refl _) _
    have X2 := BoxAt.new w5 ns (.slice A4 nbs.length c4)
    generalize hW : (w5.alloc (.cells #[.int .i64 ns, .slice A4 nbs.length c4] 24)) = w6 at *
    clear hW
    replace X0 := X0.below hn
    replace X1 := X1.below hn
    replace hf := hf.agree (Agree.below hn)
    replace hd := hd.agree (Agree.below hn)
    replace hs3 := hs3.agree (Agree.below hn)
    replace hs4 := hs4.agree (Agree.below hn)
    replace hb := hb.trans (hn.mono hb.size)
    clear hn
    have CC := same_any (fun _ => True) ⟨ns, nbs⟩ ⟨ns, nbs⟩ A3 A4 c3 c4 w6 hs3 hs4 hnl
    rw [show decide ((⟨ns, nbs⟩ : Fl) = ⟨ns, nbs⟩) = true from by simp] at CC
    refine (CC).mono ?_
    rintro e w7 ⟨rfl, hn⟩
    clear CC
    replace X0 := X0.below hn
    replace X1 := X1.below hn
    replace X2 := X2.below hn
    replace hf := hf.agree (Agree.below hn)
    replace hd := hd.agree (Agree.below hn)
    replace hs3 := hs3.agree (Agree.below hn)
    replace hs4 := hs4.agree (Agree.below hn)
    replace hb := hb.trans (hn.mono hb.size)
    clear hn
    clear X1
    clear X2
    clear hs3
    clear hs4
    have X0a := X0.at0
    have X0b := X0.at1
    have X0c := X0.lt
    go_wp2_with fail
    clear X0a X0b X0c
    refine (H3 w7 hf hd).mono ?_
    rintro e w8 ⟨A5, c5, rfl, hs5, hn⟩
    replace hs5 := hs5.mono (ok' := fun _ => True) (fun _ _ => trivial)
    replace X0 := X0.below hn
    replace hf := hf.agree (Agree.below hn)
    replace hd := hd.agree (Agree.below hn)
    replace hb := hb.trans (hn.mono hb.size)
    clear hn
    have X0a := X0.at0
    have X0b := X0.at1
    have X0c := X0.lt
    go_wp2_with fail
    clear X0a X0b X0c
    refine (H4 w8 hf hd).mono ?_
    rintro e w9 ⟨A6, c6, rfl, hs6, hn⟩
    replace hs6 := hs6.mono (ok' := fun _ => True) (fun _ _ => trivial)
    replace X0 := X0.below hn
    replace hf := hf.agree (Agree.below hn)
    replace hd := hd.agree (Agree.below hn)
    replace hs5 := hs5.agree (Agree.below hn)
    replace hb := hb.trans (hn.mono hb.size)
    clear hn
    have X0a := X0.at0
    have X0b := X0.at1
    have X0c := X0.lt
    go_wp2_with fail
    clear X0a X0b X0c
    refine (H5 w9 hf).mono ?_
    rintro e w10 ⟨A7, c7, rfl, hs7, hn⟩
    replace hs7 := hs7.mono (ok' := fun _ => True) (fun _ _ => trivial)
    replace X0 := X0.below hn
    replace hf := hf.agree (Agree.below hn)
    replace hd := hd.agree (Agree.below hn)
    replace hs5 := hs5.agree (Agree.below hn)
    replace hs6 := hs6.agree (Agree.below hn)
    replace hb := hb.trans (hn.mono hb.size)
    clear hn
    have X0a := X0.at0
    have X0b := X0.at1
    have X0c := X0.lt
    go_wp2_with fail
    clear X0a X0b X0c
    refine (H6 w10 hf).mono ?_
    rintro e w11 ⟨A8, c8, rfl, hs8, hn⟩
    replace hs8 := hs8.mono (ok' := fun _ => True) (fun _ _ => trivial)
    replace X0 := X0.below hn
    replace hf := hf.agree (Agree.below hn)
    replace hd := hd.agree (Agree.below hn)
    replace hs5 := hs5.agree (Agree.below hn)
    replace hs6 := hs6.agree (Agree.below hn)
    replace hs7 := hs7.agree (Agree.below hn)
    replace hb := hb.trans (hn.mono hb.size)
    clear hn
    have X0a := X0.at0
    have X0b := X0.at1
    have X0c := X0.lt
    go_wp2_with fail
    clear X0a X0b X0c
    have kS : ∀ W' : World, Below w11.heap.size w11 W' → W'.cell? ⟨w.heap.size, 0, none⟩ = some (.int .i64 s) ∧ W'.cell? ⟨w.heap.size, 1, none⟩ = some (.slice A bs.length c) := fun W' hn => ⟨(X0.below hn).at0, (X0.below hn).at1⟩
    have V1' : ∀ W' : World, Below w11.heap.size w11 W' → Calls Try.prog 36 #[.agg #[.int .i64 s, .slice A bs.length c]] W' fun e w'' => e = .returned (.bool vb) ∧ Below w11.heap.size w11 w'' := fun W' hn => (V1 W').mono (fun e w'' h => ⟨h.1, by rw [h.2]; exact hn.alloc hn.size _⟩)
    have V2' : ∀ W' : World, Below w11.heap.size w11 W' → Calls Try.prog 37 #[.agg #[.int .i64 s, .slice A bs.length c]] W' fun e w'' => e = .returned (.bool vb) ∧ Below w11.heap.size w11 w'' := fun W' hn => (V2 W').mono (fun e w'' h => ⟨h.1, by rw [h.2]; exact hn.alloc hn.size _⟩)
    have L1 : ∀ W' : World, Below w11.heap.size w11 W' → Calls Try.prog 38 #[.slice A5 l1.length c5, .slice A6 l1.length c6] W' fun e w'' => e = .returned (.bool true) ∧ Below w11.heap.size w11 w'' := fun W' hn => by
      have h := samelist_any (fun _ => True) l1 l1 A5 A6 c5 c6 W' (hs5.agree (Agree.below hn)) (hs6.agree (Agree.below hn)) hl1.1 hl1.2
      rw [show decide (l1 = l1) = true from by simp] at h
      exact h.mono (fun e w'' h => ⟨h.1, hn.trans (h.2.mono hn.size)⟩)
    have L2 : ∀ W' : World, Below w11.heap.size w11 W' → Calls Try.prog 38 #[.slice A7 l2.length c7, .slice A8 l2.length c8] W' fun e w'' => e = .returned (.bool true) ∧ Below w11.heap.size w11 w'' := fun W' hn => by
      have h := samelist_any (fun _ => True) l2 l2 A7 A8 c7 c8 W' (hs7.agree (Agree.below hn)) (hs8.agree (Agree.below hn)) hl2.1 hl2.2
      rw [show decide (l2 = l2) = true from by simp] at h
      exact h.mono (fun e w'' h => ⟨h.1, hn.trans (h.2.mono hn.size)⟩)
    have hsz := hb.size
    clear V1 V2 H1 H2 H3 H4 H5 H6 hf hd hs5 hs6 hs7 hs8 u1 u2 hl1 hl2 hnl
    go_region_held3 (fun W' => W'.cell? ⟨w.heap.size, 0, none⟩ = some (.int .i64 s) ∧ W'.cell? ⟨w.heap.size, 1, none⟩ = some (.slice A bs.length c))
      (first | exact kS _ (Below.refl _ _).drew | exact kS _ (by assumption))
      (first
      | (go_at_call 36; with_reducible refine Calls.mono (V1' _ (by first | assumption | exact (Below.refl _ _).drew)) ?_; rintro e w' ⟨rfl, hn⟩)
      | (go_at_call 37; with_reducible refine Calls.mono (V2' _ (by first | assumption | exact (Below.refl _ _).drew)) ?_; rintro e w' ⟨rfl, hn⟩)
      | (go_at_call 38; with_reducible refine Calls.mono (L1 _ (by first | assumption | exact (Below.refl _ _).drew)) ?_; rintro e w' ⟨rfl, hn⟩)
      | (go_at_call 38; with_reducible refine Calls.mono (L2 _ (by first | assumption | exact (Below.refl _ _).drew)) ?_; rintro e w' ⟨rfl, hn⟩))
    go_wp2_with fail
    go_ret
    refine ⟨?_, hb.trans (Below.mono (by assumption) hsz)⟩
    simp
end Go.Proofs.Ytdoehnnhbfmleaa
