/- FlashSteps: the walk. -/
import Derived.Test.YtdoehnnhbfmleaaL2
import Derived.Test.YtdoehnnhbfmleaaL5
import Derived.Deep.QuietTactic
import Derived.BigQuiet
namespace Go.Proofs.Ytdoehnnhbfmleaa
open Go Go.RowKit Go.Shelf

/-- Each memory of a list is the one before with one byte changed, at the place at_ plus the number of the step. -/
def Chain (C : UInt8 → UInt8 → Prop) (at_ : Int) (n : Nat) (l : List Fl) : Prop :=
  l.length ≤ 1000000 ∧ ∀ (i : Nat) (h : i + 1 < l.length), ∃ (k : Nat) (v : UInt8) (hk : k < l[i].bytes.length), (k : Int) = at_ + i ∧ l[i].bytes.length = n ∧ l[i + 1].bytes = l[i].bytes.set k v ∧ valid l[i + 1] = true ∧ C (l[i].bytes[k]) v

theorem Chain.nil (C : UInt8 → UInt8 → Prop) (at_ : Int) (n : Nat) : Chain C at_ n [] := ⟨by simp, fun i h => by simp at h⟩

theorem Chain.steps (C : UInt8 → UInt8 → Prop) (f : Fl) (s m : Nat) (g : Nat → UInt8 → UInt8) (hv : valid f = true) (hm : s + m ≤ f.bytes.length) (hC : ∀ i b, i < m → C b (g i b)) :
    Chain C s f.bytes.length (steps f s m g) := by
  have hl := (valid_len hv).1
  refine ⟨by rw [steps_length]; omega, fun i h => ?_⟩
  have hi : i < m := by rw [steps_length] at h; omega
  simp only [steps_get]
  have hk : s + i < f.bytes.length := by omega
  have hat := upd_at f.bytes s i g hk
  refine ⟨s + i, g i (f.bytes[s + i]), by simpa using hk, by omega, by simp, ?_, by rw [valid_upd]; exact hv, ?_⟩
  · exact upd_succ f.bytes s i g hk
  · simp only [hat]
    exact hC i _ hi

def Clears (b v : UInt8) : Prop := v &&& ~~~ b = 0
def Sets (_ v : UInt8) : Prop := v = 255

theorem clears_bits {b v : UInt8} (h : Clears b v) : bits .andNot .u8 (v.toNat : Int) (b.toNat : Int) = 0 := by
  rw [u8_andNot_nat _ _ (UInt8.toNat_lt v) (UInt8.toNat_lt b)]
  have := congrArg UInt8.toNat h
  rw [UInt8.toNat_and, UInt8.toNat_not] at this
  simp at this
  omega

theorem clears_and (data : List UInt8) (i : Nat) (b : UInt8) : Clears b (andWith data i b) := by
  unfold Clears andWith
  rw [UInt8.and_comm b, UInt8.and_assoc, UInt8.and_not_self, UInt8.and_zero]

set_option maxRecDepth 100000 in
set_option maxHeartbeats 8000000 in
theorem fsteps_any (ok : Ok) (f : Fl) (A : Option Addr) (c : Nat) (at_ : Int) (data : List UInt8) (A2 : Option Addr) (c2 : Nat) (q : Int) (w : World) (hf : isSlice kU8 ok w (.slice A f.bytes.length c) f.bytes) (hd : isSlice kU8 ok w (.slice A2 data.length c2) data) :
    Calls Try.prog 4 #[.agg #[.int .i64 f.sector, .slice A f.bytes.length c], .int .i64 at_, .slice A2 data.length c2, .int .i64 q] w fun e w' => e = .returned (.bool true) ∧ Below w.heap.size w w' := by
  have X0 := BoxAt.new w f.sector (.slice A f.bytes.length c)
  have hb : Below w.heap.size w (w.alloc (.cells #[.int .i64 f.sector, .slice A f.bytes.length c] 24)) := (Below.refl _ w).alloc (Nat.le_refl _) _
  replace hf := hf.agree (Agree.below hb)
  replace hd := hd.agree (Agree.below hb)
  have H3 := fun W => program_any ok f A c at_ data A2 c2 W
  have H4 := fun W => erase_any ok f A c q W
  have hP : Chain Clears at_ f.bytes.length (program f at_ data).1 ∧ ((program f at_ data).2 ≠ 0 ∨ ((program f at_ data).2 = 0 ∧ (program f at_ data).1.length = data.length + 1 ∧ (program f at_ data).1[0]? = some f)) := by
    rcases program_cases f at_ data with ⟨e, he, hp⟩ | ⟨hv, h0, h1, hp⟩
    · rw [hp]
      exact ⟨Chain.nil _ _ _, .inl (by rcases he with rfl | rfl <;> decide)⟩
    · rw [hp]
      refine ⟨?_, .inr ⟨rfl, steps_length .., ?_⟩⟩
      · have := Chain.steps Clears f at_.toNat data.length (andWith data) hv (by omega) (fun i b _ => clears_and data i b)
        rwa [Int.toNat_of_nonneg h0] at this
      · simp only
        rw [List.getElem?_eq_getElem (by simp), steps_get, upd_zero]
  have hE : Chain Sets (q * f.sector) f.bytes.length (erase f q).1 ∧ ((erase f q).2 ≠ 0 ∨ ((erase f q).2 = 0 ∧ ((erase f q).1.length : Int) = f.sector + 1 ∧ (erase f q).1[0]? = some f)) := by
    rcases erase_cases f q with hp | ⟨hv, h0, h1, hp⟩
    · rw [hp]
      exact ⟨Chain.nil _ _ _, .inl (by decide)⟩
    · rw [hp]
      obtain ⟨l1, l2, l3, l4, l5⟩ := valid_len hv
      have h3 : 0 ≤ q * f.sector := Int.mul_nonneg h0 (by omega)
      refine ⟨?_, .inr ⟨rfl, by rw [steps_length]; omega, ?_⟩⟩
      · have := Chain.steps Sets f (q * f.sector).toNat f.sector.toNat toFF hv (by omega) (fun i b _ => rfl)
        rwa [Int.toNat_of_nonneg h3] at this
      · simp only
        rw [List.getElem?_eq_getElem (by simp), steps_get, upd_zero]
  generalize program f at_ data = r at H3 hP
  obtain ⟨l1, e1⟩ := r
  generalize erase f q = r at H4 hE
  obtain ⟨l2, e2⟩ := r
  simp only at H3 H4 hP hE
  obtain ⟨hP1, hP2⟩ := hP
  obtain ⟨hE1, hE2⟩ := hE
  obtain ⟨s, bs⟩ := f
  simp only at *
  by_cases hbig : 300 < bs.length
  · clear H3 H4 hP1 hP2 hE1 hE2
    have u1 : decide ((300 : Int) < (bs.length : Int)) = true := by simp; omega
    go_enter Try.func4, Try.ntmps4
    go_wp2_with fail
    generalize hW : (w.alloc (.cells #[.int .i64 s, .slice A bs.length c] 24)) = W0 at *
    clear hW
    refine (head_any W0).mono ?_
    rintro e W1 ⟨rfl, hn⟩
    replace X0 := X0.below hn
    replace hf := hf.agree (Agree.below hn)
    replace hd := hd.agree (Agree.below hn)
    replace hb := hb.trans (hn.mono hb.size)
    clear hn
    have X0a := X0.at0
    have X0b := X0.at1
    have X0c := X0.lt
    go_wp2_with fail
    clear X0a X0b X0c
    go_ret
    exact ⟨rfl, hb⟩
  by_cases hbig2 : 300 < data.length
  · clear H3 H4 hP1 hP2 hE1 hE2
    have u1 : decide ((300 : Int) < (bs.length : Int)) = false := by simp; omega
    have u2 : decide ((300 : Int) < (data.length : Int)) = true := by simp; omega
    go_enter Try.func4, Try.ntmps4
    go_wp2_with fail
    generalize hW : (w.alloc (.cells #[.int .i64 s, .slice A bs.length c] 24)) = W0 at *
    clear hW
    refine (head_any W0).mono ?_
    rintro e W1 ⟨rfl, hn⟩
    replace X0 := X0.below hn
    replace hf := hf.agree (Agree.below hn)
    replace hd := hd.agree (Agree.below hn)
    replace hb := hb.trans (hn.mono hb.size)
    clear hn
    have X0a := X0.at0
    have X0b := X0.at1
    have X0c := X0.lt
    go_wp2_with fail
    clear X0a X0b X0c
    go_ret
    exact ⟨rfl, hb⟩
  · have u1 : decide ((300 : Int) < (bs.length : Int)) = false := by simp; omega
    have u2 : decide ((300 : Int) < (data.length : Int)) = false := by simp; omega
    go_enter Try.func4, Try.ntmps4
    go_wp2_with fail
    generalize hW : (w.alloc (.cells #[.int .i64 s, .slice A bs.length c] 24)) = W0 at *
    clear hW
    refine (head_any W0).mono ?_
    rintro e W1 ⟨rfl, hn⟩
    replace X0 := X0.below hn
    replace hf := hf.agree (Agree.below hn)
    replace hd := hd.agree (Agree.below hn)
    replace hb := hb.trans (hn.mono hb.size)
    clear hn
    have X0a := X0.at0
    have X0b := X0.at1
    have X0c := X0.lt
    go_wp2_with fail
    clear X0a X0b X0c
    refine (H3 W1 hf hd).mono ?_
    rintro e W2 ⟨A5, c5, rfl, hs5, hn⟩
    replace hs5 := hs5.mono (ok' := fun _ => True) (fun _ _ => trivial)
    replace X0 := X0.below hn
    replace hf := hf.agree (Agree.below hn)
    replace hd := hd.agree (Agree.below hn)
    replace hb := hb.trans (hn.mono hb.size)
    clear hn
    have X0a := X0.at0
    have X0b := X0.at1
    have X0c := X0.lt
    go_wp2_with fail
    clear X0a X0b X0c
    clear u1 u2 H3
    go_loopw [12] (fun iv wr => ∃ (i : Nat), 1 ≤ i ∧ (i ≤ l1.length ∨ i = 1) ∧ iv = .int .i64 i ∧ Below W2.heap.size W2 wr) (fun iv _ => l1.length - (intOf iv).toNat)
    case atStart => exact ⟨1, Nat.le_refl _, .inr rfl, rfl, Below.refl _ _⟩
    case round =>
      obtain ⟨i, hi1, hi, rfl, hbw⟩ := hrel
      replace X0 := X0.below hbw
      replace hf := hf.agree (Agree.below hbw)
      replace hd := hd.agree (Agree.below hbw)
      replace hs5 := hs5.agree (Agree.below hbw)
      by_cases hlt : i < l1.length
      · obtain ⟨j, hij⟩ : ∃ j, j + 1 = i := ⟨i - 1, by omega⟩
        have hlt' : j + 1 < l1.length := by omega
        obtain ⟨k, v, hk, hke, hln, hset, hval, hC⟩ := hP1.2 j hlt'
        have hn1 := hP1.1
        obtain ⟨g1, o1, A6, c6, rfl, hg1, p1, p2, p3⟩ := slice_get hs5 j (by omega)
        obtain ⟨_, _, A7, c7, he7, _, p4, p5, p6⟩ := slice_get hs5 (j + 1) hlt'
        cases he7
        rw [hset, List.length_set, hln] at p5 p6
        rw [hln] at p2 p3
        generalize hx1 : l1[j] = x1 at *
        generalize hx2 : l1[j + 1] = x2 at *
        have r1 : (0 : Int) ≤ (j : Int) := by omega
        have r2 : (j : Int) < (l1.length : Int) := by omega
        have r3 : (0 : Int) ≤ (i : Int) := by omega
        have r4 : (i : Int) < (l1.length : Int) := by omega
        have m1 : 1 ≤ i + 1 := by omega
        have m2 : i + 1 ≤ l1.length ∨ i + 1 = 1 := .inl hlt
        have m3 : l1.length - ((i : Int) + 1).toNat < l1.length - (i : Int).toNat := by omega
        have m4 : ((i + 1 : Nat) : Int) = (i : Int) + 1 := by omega
        have q2b : IntKind.i64.wrap (k : Int) = (k : Int) := IntWalk.i64_in _ (by omega)
        have q0 : IntKind.i64.wrap ((k : Int) + 1) = (k : Int) + 1 := IntWalk.i64_in _ (by clear q2b; omega)
        have q2 : IntKind.i64.wrap ((k : Int) + 1 - 1) = (k : Int) := by rw [Int.add_sub_cancel]; exact q2b
        have q3 : (0 : Int) ≤ (k : Int) := Int.natCast_nonneg _
        have q4 : (k : Int) < (bs.length : Int) := by clear q0 q2 q2b; omega
        have hk0 : 0 < x1.bytes.length := Nat.lt_of_le_of_lt (Nat.zero_le _) hk
        have hk1 : 0 < (x1.bytes.set k v).length := by rw [List.length_set]; exact hk0
        have hk2 : k < (x1.bytes.set k v).length := by rw [List.length_set]; exact hk
        have hbl : x1.bytes.length ≤ 1000000 := by clear q0 q2 q2b; omega
        have r6 : at_ + (i : Int) = (k : Int) + 1 := by clear q0 q2 q2b; omega
        have q1 : IntKind.i64.wrap (at_ + (i : Int)) = (k : Int) + 1 := by rw [r6]; exact q0
        have r5 : IntKind.i64.wrap ((i : Int) - 1) = (j : Int) := by rw [show (i : Int) - 1 = (j : Int) by clear q0 q1 q2 q2b; omega]; exact IntWalk.i64_in _ (by clear q0 q1 q2 q2b; omega)
        rw [hij] at p4 p5
        have hlen2 : x2.bytes.length = bs.length := by rw [hset, List.length_set, hln]
        clear hx1 hx2
        clear hij hlt' hke
        skip
        have kS : ∀ W' : World, Below wr.heap.size wr W' → W'.cell? ⟨g1, o1 + j * 2, none⟩ = some (.int .i64 x1.sector) ∧ W'.cell? ⟨g1, o1 + j * 2 + 1, none⟩ = some (.slice A6 bs.length c6) ∧ W'.cell? ⟨g1, o1 + i * 2, none⟩ = some (.int .i64 x2.sector) ∧ W'.cell? ⟨g1, o1 + i * 2 + 1, none⟩ = some (.slice A7 bs.length c7) :=
          fun W' hb => ⟨(hb.cell (p := ⟨g1, o1 + j * 2, none⟩) hg1).trans p1, (hb.cell (p := ⟨g1, o1 + j * 2 + 1, none⟩) hg1).trans p2, (hb.cell (p := ⟨g1, o1 + i * 2, none⟩) hg1).trans p4, (hb.cell (p := ⟨g1, o1 + i * 2 + 1, none⟩) hg1).trans p5⟩
        go_wp2_with fail
        rename_i Q K hK
        go_region_held3 (fun W' => W'.cell? ⟨g1, o1 + j * 2, none⟩ = some (.int .i64 x1.sector) ∧ W'.cell? ⟨g1, o1 + j * 2 + 1, none⟩ = some (.slice A6 bs.length c6) ∧ W'.cell? ⟨g1, o1 + i * 2, none⟩ = some (.int .i64 x2.sector) ∧ W'.cell? ⟨g1, o1 + i * 2 + 1, none⟩ = some (.slice A7 bs.length c7))
          (first | exact kS _ (Below.refl _ _).drew | exact kS _ ((Below.refl _ _).drew.alloc (Nat.le_refl _) _) | exact kS _ (((Below.refl _ _).drew.alloc (Nat.le_refl _) _).alloc (by simp) _)) (fail)
        · simp only [Exit.then]
          have hn : Below wr.heap.size wr ((wr.alloc (.cells #[.int .i64 x1.sector, .slice A6 bs.length c6] 24)).alloc (.cells #[.int .i64 x2.sector, .slice A7 bs.length c7] 24)).drew := (((Below.refl _ _).alloc (Nat.le_refl _) _).alloc (by simp) _).drew
          have X1 : BoxAt ((wr.alloc (.cells #[.int .i64 x1.sector, .slice A6 bs.length c6] 24)).alloc (.cells #[.int .i64 x2.sector, .slice A7 bs.length c7] 24)).drew wr.heap.size x1.sector (.slice A6 bs.length c6) := ((BoxAt.new wr _ _).below ((Below.refl _ _).alloc (Nat.le_refl _) _)).below (Below.refl _ _).drew
          have X2 : BoxAt ((wr.alloc (.cells #[.int .i64 x1.sector, .slice A6 bs.length c6] 24)).alloc (.cells #[.int .i64 x2.sector, .slice A7 bs.length c7] 24)).drew (wr.heap.size + 1) x2.sector (.slice A7 bs.length c7) := by have := (BoxAt.new (wr.alloc (.cells #[.int .i64 x1.sector, .slice A6 bs.length c6] 24)) x2.sector (.slice A7 bs.length c7)).below (Below.refl _ _).drew; rwa [World.size_alloc] at this
          generalize hW : ((wr.alloc (.cells #[.int .i64 x1.sector, .slice A6 bs.length c6] 24)).alloc (.cells #[.int .i64 x2.sector, .slice A7 bs.length c7] 24)).drew = Wn at *
          clear hW kS
          have hbn := hbw.trans (hn.mono hbw.size)
          replace X0 := X0.below hn
          replace hf := hf.agree (Agree.below hn)
          replace hd := hd.agree (Agree.below hn)
          replace hs5 := hs5.agree (Agree.below hn)
          replace p3 := p3.agree (Agree.below hn)
          replace p6 := p6.agree (Agree.below hn)
          clear hn p1 p2 p4 p5 hg1
          apply hK
          clear hK
          have VV := valid_any x2 A7 c7 Wn
          rw [hlen2, hval] at VV
          have X0a := X0.at0
          have X0b := X0.at1
          have X0c := X0.lt
          have X1a := X1.at0
          have X1b := X1.at1
          have X1c := X1.lt
          have X2a := X2.at0
          have X2b := X2.at1
          have X2c := X2.lt
          go_wp2_with fail
          clear X0a X0b X0c
          clear X1a X1b X1c
          clear X2a X2b X2c
          refine VV.mono ?_
          rintro e Wv ⟨rfl, hwv⟩
          have hn : Below Wn.heap.size Wn Wv := by rw [hwv]; exact (Below.refl _ _).alloc (Nat.le_refl _) _
          clear hwv VV
          replace X0 := X0.below hn
          replace X1 := X1.below hn
          replace X2 := X2.below hn
          replace hf := hf.agree (Agree.below hn)
          replace hd := hd.agree (Agree.below hn)
          replace hs5 := hs5.agree (Agree.below hn)
          replace p3 := p3.agree (Agree.below hn)
          replace p6 := p6.agree (Agree.below hn)
          replace hbn := hbn.trans (hn.mono hbn.size)
          clear hn
          have X0a := X0.at0
          have X0b := X0.at1
          have X0c := X0.lt
          have X1a := X1.at0
          have X1b := X1.at1
          have X1c := X1.lt
          have X2a := X2.at0
          have X2b := X2.at1
          have X2c := X2.lt
          go_wp2_with fail
          clear X0a X0b X0c
          clear X1a X1b X1c
          clear X2a X2b X2c
          have OO := one_any (fun _ => True) x1.bytes k v hk A6 A7 c6 c7 Wv (by rw [hln]; exact p3) (by rw [hln]; exact p6) hbl
          rw [hln] at OO
          by_cases hne : x1.bytes[k] ≠ v
          · simp only [if_pos hne] at OO
            refine (OO).mono ?_
            rintro e W3 ⟨rfl, hn⟩
            clear OO
            replace X0 := X0.below hn
            replace X1 := X1.below hn
            replace X2 := X2.below hn
            replace hf := hf.agree (Agree.below hn)
            replace hd := hd.agree (Agree.below hn)
            replace hs5 := hs5.agree (Agree.below hn)
            replace p3 := p3.agree (Agree.below hn)
            replace p6 := p6.agree (Agree.below hn)
            replace hbn := hbn.trans (hn.mono hbn.size)
            clear hn
            obtain ⟨g2, o2, rfl, _, hg2, y1⟩ := bytes_open p3 hk0
            have z1 := y1 k hk
            obtain ⟨g3, o3, rfl, _, hg3, y2⟩ := bytes_open p6 hk1
            have z2 := y2 k hk2
            rw [List.getElem_set_self] at z2
            clear y1 y2
            have hbits := clears_bits hC
            have X0a := X0.at0
            have X0b := X0.at1
            have X0c := X0.lt
            have X1a := X1.at0
            have X1b := X1.at1
            have X1c := X1.lt
            have X2a := X2.at0
            have X2b := X2.at1
            have X2c := X2.lt
            go_wp2_with fail
            go_quiet (fail)
            go_wp2
            clear X0a X0b X0c
            clear X1a X1b X1c
            clear X2a X2b X2c
            exact ⟨⟨i + 1, m1, m2, by rw [m4], hbn.trans ⟨rfl, rfl, rfl, Nat.le_refl _, fun _ _ => rfl⟩⟩, m3⟩
          · simp only [if_neg hne] at OO
            refine (OO).mono ?_
            rintro e W3 ⟨rfl, hn⟩
            clear OO
            replace X0 := X0.below hn
            replace X1 := X1.below hn
            replace X2 := X2.below hn
            replace hf := hf.agree (Agree.below hn)
            replace hd := hd.agree (Agree.below hn)
            replace hs5 := hs5.agree (Agree.below hn)
            replace p3 := p3.agree (Agree.below hn)
            replace p6 := p6.agree (Agree.below hn)
            replace hbn := hbn.trans (hn.mono hbn.size)
            clear hn
            have X0a := X0.at0
            have X0b := X0.at1
            have X0c := X0.lt
            have X1a := X1.at0
            have X1b := X1.at1
            have X1c := X1.lt
            have X2a := X2.at0
            have X2b := X2.at1
            have X2c := X2.lt
            go_wp2_with fail
            go_quiet (fail)
            go_wp2
            clear X0a X0b X0c
            clear X1a X1b X1c
            clear X2a X2b X2c
            exact ⟨⟨i + 1, m1, m2, by rw [m4], hbn.trans ⟨rfl, rfl, rfl, Nat.le_refl _, fun _ _ => rfl⟩⟩, m3⟩
        · simp only [Exit.then]
          have hn : Below wr.heap.size wr ((wr.alloc (.cells #[.int .i64 x2.sector, .slice A7 bs.length c7] 24)).alloc (.cells #[.int .i64 x1.sector, .slice A6 bs.length c6] 24)).drew := (((Below.refl _ _).alloc (Nat.le_refl _) _).alloc (by simp) _).drew
          have X1 : BoxAt ((wr.alloc (.cells #[.int .i64 x2.sector, .slice A7 bs.length c7] 24)).alloc (.cells #[.int .i64 x1.sector, .slice A6 bs.length c6] 24)).drew (wr.heap.size + 1) x1.sector (.slice A6 bs.length c6) := by have := (BoxAt.new (wr.alloc (.cells #[.int .i64 x2.sector, .slice A7 bs.length c7] 24)) x1.sector (.slice A6 bs.length c6)).below (Below.refl _ _).drew; rwa [World.size_alloc] at this
          have X2 : BoxAt ((wr.alloc (.cells #[.int .i64 x2.sector, .slice A7 bs.length c7] 24)).alloc (.cells #[.int .i64 x1.sector, .slice A6 bs.length c6] 24)).drew wr.heap.size x2.sector (.slice A7 bs.length c7) := ((BoxAt.new wr _ _).below ((Below.refl _ _).alloc (Nat.le_refl _) _)).below (Below.refl _ _).drew
          generalize hW : ((wr.alloc (.cells #[.int .i64 x2.sector, .slice A7 bs.length c7] 24)).alloc (.cells #[.int .i64 x1.sector, .slice A6 bs.length c6] 24)).drew = Wn at *
          clear hW kS
          have hbn := hbw.trans (hn.mono hbw.size)
          replace X0 := X0.below hn
          replace hf := hf.agree (Agree.below hn)
          replace hd := hd.agree (Agree.below hn)
          replace hs5 := hs5.agree (Agree.below hn)
          replace p3 := p3.agree (Agree.below hn)
          replace p6 := p6.agree (Agree.below hn)
          clear hn p1 p2 p4 p5 hg1
          apply hK
          clear hK
          have VV := valid_any x2 A7 c7 Wn
          rw [hlen2, hval] at VV
          have X0a := X0.at0
          have X0b := X0.at1
          have X0c := X0.lt
          have X1a := X1.at0
          have X1b := X1.at1
          have X1c := X1.lt
          have X2a := X2.at0
          have X2b := X2.at1
          have X2c := X2.lt
          go_wp2_with fail
          clear X0a X0b X0c
          clear X1a X1b X1c
          clear X2a X2b X2c
          refine VV.mono ?_
          rintro e Wv ⟨rfl, hwv⟩
          have hn : Below Wn.heap.size Wn Wv := by rw [hwv]; exact (Below.refl _ _).alloc (Nat.le_refl _) _
          clear hwv VV
          replace X0 := X0.below hn
          replace X1 := X1.below hn
          replace X2 := X2.below hn
          replace hf := hf.agree (Agree.below hn)
          replace hd := hd.agree (Agree.below hn)
          replace hs5 := hs5.agree (Agree.below hn)
          replace p3 := p3.agree (Agree.below hn)
          replace p6 := p6.agree (Agree.below hn)
          replace hbn := hbn.trans (hn.mono hbn.size)
          clear hn
          have X0a := X0.at0
          have X0b := X0.at1
          have X0c := X0.lt
          have X1a := X1.at0
          have X1b := X1.at1
          have X1c := X1.lt
          have X2a := X2.at0
          have X2b := X2.at1
          have X2c := X2.lt
          go_wp2_with fail
          clear X0a X0b X0c
          clear X1a X1b X1c
          clear X2a X2b X2c
          have OO := one_any (fun _ => True) x1.bytes k v hk A6 A7 c6 c7 Wv (by rw [hln]; exact p3) (by rw [hln]; exact p6) hbl
          rw [hln] at OO
          by_cases hne : x1.bytes[k] ≠ v
          · simp only [if_pos hne] at OO
            refine (OO).mono ?_
            rintro e W3 ⟨rfl, hn⟩
            clear OO
            replace X0 := X0.below hn
            replace X1 := X1.below hn
            replace X2 := X2.below hn
            replace hf := hf.agree (Agree.below hn)
            replace hd := hd.agree (Agree.below hn)
            replace hs5 := hs5.agree (Agree.below hn)
            replace p3 := p3.agree (Agree.below hn)
            replace p6 := p6.agree (Agree.below hn)
            replace hbn := hbn.trans (hn.mono hbn.size)
            clear hn
            obtain ⟨g2, o2, rfl, _, hg2, y1⟩ := bytes_open p3 hk0
            have z1 := y1 k hk
            obtain ⟨g3, o3, rfl, _, hg3, y2⟩ := bytes_open p6 hk1
            have z2 := y2 k hk2
            rw [List.getElem_set_self] at z2
            clear y1 y2
            have hbits := clears_bits hC
            have X0a := X0.at0
            have X0b := X0.at1
            have X0c := X0.lt
            have X1a := X1.at0
            have X1b := X1.at1
            have X1c := X1.lt
            have X2a := X2.at0
            have X2b := X2.at1
            have X2c := X2.lt
            go_wp2_with fail
            go_quiet (fail)
            go_wp2
            clear X0a X0b X0c
            clear X1a X1b X1c
            clear X2a X2b X2c
            exact ⟨⟨i + 1, m1, m2, by rw [m4], hbn.trans ⟨rfl, rfl, rfl, Nat.le_refl _, fun _ _ => rfl⟩⟩, m3⟩
          · simp only [if_neg hne] at OO
            refine (OO).mono ?_
            rintro e W3 ⟨rfl, hn⟩
            clear OO
            replace X0 := X0.below hn
            replace X1 := X1.below hn
            replace X2 := X2.below hn
            replace hf := hf.agree (Agree.below hn)
            replace hd := hd.agree (Agree.below hn)
            replace hs5 := hs5.agree (Agree.below hn)
            replace p3 := p3.agree (Agree.below hn)
            replace p6 := p6.agree (Agree.below hn)
            replace hbn := hbn.trans (hn.mono hbn.size)
            clear hn
            have X0a := X0.at0
            have X0b := X0.at1
            have X0c := X0.lt
            have X1a := X1.at0
            have X1b := X1.at1
            have X1c := X1.lt
            have X2a := X2.at0
            have X2b := X2.at1
            have X2c := X2.lt
            go_wp2_with fail
            go_quiet (fail)
            go_wp2
            clear X0a X0b X0c
            clear X1a X1b X1c
            clear X2a X2b X2c
            exact ⟨⟨i + 1, m1, m2, by rw [m4], hbn.trans ⟨rfl, rfl, rfl, Nat.le_refl _, fun _ _ => rfl⟩⟩, m3⟩
      · have r4 : ¬ (i : Int) < (l1.length : Int) := by omega
        replace hb := hb.trans (hbw.mono hb.size)
        clear hbw hi1 hi hlt
        have X0a := X0.at0
        have X0b := X0.at1
        have X0c := X0.lt
        go_wp2_with fail
        clear X0a X0b X0c
        refine (H4 wr hf).mono ?_
        rintro e W3 ⟨A10, c10, rfl, hs10, hn⟩
        replace hs10 := hs10.mono (ok' := fun _ => True) (fun _ _ => trivial)
        replace X0 := X0.below hn
        replace hf := hf.agree (Agree.below hn)
        replace hd := hd.agree (Agree.below hn)
        replace hs5 := hs5.agree (Agree.below hn)
        replace hb := hb.trans (hn.mono hb.size)
        clear hn
        have X0a := X0.at0
        have X0b := X0.at1
        have X0c := X0.lt
        go_wp2_with fail
        clear X0a X0b X0c
        clear H4 r4
        go_loopw [19] (fun iv wr => ∃ (i : Nat), 1 ≤ i ∧ (i ≤ l2.length ∨ i = 1) ∧ iv = .int .i64 i ∧ Below W3.heap.size W3 wr) (fun iv _ => l2.length - (intOf iv).toNat)
        case atStart => exact ⟨1, Nat.le_refl _, .inr rfl, rfl, Below.refl _ _⟩
        case round =>
          obtain ⟨i, hi1, hi, rfl, hbw⟩ := hrel
          replace X0 := X0.below hbw
          replace hf := hf.agree (Agree.below hbw)
          replace hd := hd.agree (Agree.below hbw)
          replace hs5 := hs5.agree (Agree.below hbw)
          replace hs10 := hs10.agree (Agree.below hbw)
          by_cases hlt : i < l2.length
          · obtain ⟨j, hij⟩ : ∃ j, j + 1 = i := ⟨i - 1, by omega⟩
            have hlt' : j + 1 < l2.length := by omega
            obtain ⟨k, v, hk, hke, hln, hset, hval, hC⟩ := hE1.2 j hlt'
            have hn1 := hE1.1
            obtain ⟨g1, o1, A6, c6, rfl, hg1, p1, p2, p3⟩ := slice_get hs10 j (by omega)
            obtain ⟨_, _, A7, c7, he7, _, p4, p5, p6⟩ := slice_get hs10 (j + 1) hlt'
            cases he7
            rw [hset, List.length_set, hln] at p5 p6
            rw [hln] at p2 p3
            generalize hx1 : l2[j] = x1 at *
            generalize hx2 : l2[j + 1] = x2 at *
            have r1 : (0 : Int) ≤ (j : Int) := by omega
            have r2 : (j : Int) < (l2.length : Int) := by omega
            have r3 : (0 : Int) ≤ (i : Int) := by omega
            have r4 : (i : Int) < (l2.length : Int) := by omega
            have m1 : 1 ≤ i + 1 := by omega
            have m2 : i + 1 ≤ l2.length ∨ i + 1 = 1 := .inl hlt
            have m3 : l2.length - ((i : Int) + 1).toNat < l2.length - (i : Int).toNat := by omega
            have m4 : ((i + 1 : Nat) : Int) = (i : Int) + 1 := by omega
            have q2b : IntKind.i64.wrap (k : Int) = (k : Int) := IntWalk.i64_in _ (by omega)
            have q0 : IntKind.i64.wrap ((k : Int) + 1) = (k : Int) + 1 := IntWalk.i64_in _ (by clear q2b; omega)
            have q2 : IntKind.i64.wrap ((k : Int) + 1 - 1) = (k : Int) := by rw [Int.add_sub_cancel]; exact q2b
            have q3 : (0 : Int) ≤ (k : Int) := Int.natCast_nonneg _
            have q4 : (k : Int) < (bs.length : Int) := by clear q0 q2 q2b; omega
            have hk0 : 0 < x1.bytes.length := Nat.lt_of_le_of_lt (Nat.zero_le _) hk
            have hk1 : 0 < (x1.bytes.set k v).length := by rw [List.length_set]; exact hk0
            have hk2 : k < (x1.bytes.set k v).length := by rw [List.length_set]; exact hk
            have hbl : x1.bytes.length ≤ 1000000 := by clear q0 q2 q2b; omega
            have r6 : q * s + (i : Int) = (k : Int) + 1 := by clear q0 q2 q2b; omega
            have q1 : IntKind.i64.wrap (q * s + (i : Int)) = (k : Int) + 1 := by rw [r6]; exact q0
            have q5 : IntKind.i64.wrap (q * s) = q * s := IntWalk.i64_in _ (by clear q0 q1 q2 q2b; omega)
            have r5 : IntKind.i64.wrap ((i : Int) - 1) = (j : Int) := by rw [show (i : Int) - 1 = (j : Int) by clear q0 q1 q2 q2b; omega]; exact IntWalk.i64_in _ (by clear q0 q1 q2 q2b; omega)
            rw [hij] at p4 p5
            have hlen2 : x2.bytes.length = bs.length := by rw [hset, List.length_set, hln]
            clear hx1 hx2
            clear hij hlt' hke
            clear hs5 hd
            have kS : ∀ W' : World, Below wr.heap.size wr W' → W'.cell? ⟨g1, o1 + j * 2, none⟩ = some (.int .i64 x1.sector) ∧ W'.cell? ⟨g1, o1 + j * 2 + 1, none⟩ = some (.slice A6 bs.length c6) ∧ W'.cell? ⟨g1, o1 + i * 2, none⟩ = some (.int .i64 x2.sector) ∧ W'.cell? ⟨g1, o1 + i * 2 + 1, none⟩ = some (.slice A7 bs.length c7) :=
              fun W' hb => ⟨(hb.cell (p := ⟨g1, o1 + j * 2, none⟩) hg1).trans p1, (hb.cell (p := ⟨g1, o1 + j * 2 + 1, none⟩) hg1).trans p2, (hb.cell (p := ⟨g1, o1 + i * 2, none⟩) hg1).trans p4, (hb.cell (p := ⟨g1, o1 + i * 2 + 1, none⟩) hg1).trans p5⟩
            go_wp2_with fail
            rename_i Q K hK
            go_region_held3 (fun W' => W'.cell? ⟨g1, o1 + j * 2, none⟩ = some (.int .i64 x1.sector) ∧ W'.cell? ⟨g1, o1 + j * 2 + 1, none⟩ = some (.slice A6 bs.length c6) ∧ W'.cell? ⟨g1, o1 + i * 2, none⟩ = some (.int .i64 x2.sector) ∧ W'.cell? ⟨g1, o1 + i * 2 + 1, none⟩ = some (.slice A7 bs.length c7))
              (first | exact kS _ (Below.refl _ _).drew | exact kS _ ((Below.refl _ _).drew.alloc (Nat.le_refl _) _) | exact kS _ (((Below.refl _ _).drew.alloc (Nat.le_refl _) _).alloc (by simp) _)) (fail)
            · simp only [Exit.then]
              have hn : Below wr.heap.size wr ((wr.alloc (.cells #[.int .i64 x1.sector, .slice A6 bs.length c6] 24)).alloc (.cells #[.int .i64 x2.sector, .slice A7 bs.length c7] 24)).drew := (((Below.refl _ _).alloc (Nat.le_refl _) _).alloc (by simp) _).drew
              have X1 : BoxAt ((wr.alloc (.cells #[.int .i64 x1.sector, .slice A6 bs.length c6] 24)).alloc (.cells #[.int .i64 x2.sector, .slice A7 bs.length c7] 24)).drew wr.heap.size x1.sector (.slice A6 bs.length c6) := ((BoxAt.new wr _ _).below ((Below.refl _ _).alloc (Nat.le_refl _) _)).below (Below.refl _ _).drew
              have X2 : BoxAt ((wr.alloc (.cells #[.int .i64 x1.sector, .slice A6 bs.length c6] 24)).alloc (.cells #[.int .i64 x2.sector, .slice A7 bs.length c7] 24)).drew (wr.heap.size + 1) x2.sector (.slice A7 bs.length c7) := by have := (BoxAt.new (wr.alloc (.cells #[.int .i64 x1.sector, .slice A6 bs.length c6] 24)) x2.sector (.slice A7 bs.length c7)).below (Below.refl _ _).drew; rwa [World.size_alloc] at this
              generalize hW : ((wr.alloc (.cells #[.int .i64 x1.sector, .slice A6 bs.length c6] 24)).alloc (.cells #[.int .i64 x2.sector, .slice A7 bs.length c7] 24)).drew = Wn at *
              clear hW kS
              have hbn := hbw.trans (hn.mono hbw.size)
              replace X0 := X0.below hn
              replace hf := hf.agree (Agree.below hn)
              replace hs10 := hs10.agree (Agree.below hn)
              replace p3 := p3.agree (Agree.below hn)
              replace p6 := p6.agree (Agree.below hn)
              clear hn p1 p2 p4 p5 hg1
              apply hK
              clear hK
              have VV := valid_any x2 A7 c7 Wn
              rw [hlen2, hval] at VV
              have X0a := X0.at0
              have X0b := X0.at1
              have X0c := X0.lt
              have X1a := X1.at0
              have X1b := X1.at1
              have X1c := X1.lt
              have X2a := X2.at0
              have X2b := X2.at1
              have X2c := X2.lt
              go_wp2_with fail
              clear X0a X0b X0c
              clear X1a X1b X1c
              clear X2a X2b X2c
              refine VV.mono ?_
              rintro e Wv ⟨rfl, hwv⟩
              have hn : Below Wn.heap.size Wn Wv := by rw [hwv]; exact (Below.refl _ _).alloc (Nat.le_refl _) _
              clear hwv VV
              replace X0 := X0.below hn
              replace X1 := X1.below hn
              replace X2 := X2.below hn
              replace hf := hf.agree (Agree.below hn)
              replace hs10 := hs10.agree (Agree.below hn)
              replace p3 := p3.agree (Agree.below hn)
              replace p6 := p6.agree (Agree.below hn)
              replace hbn := hbn.trans (hn.mono hbn.size)
              clear hn
              have X0a := X0.at0
              have X0b := X0.at1
              have X0c := X0.lt
              have X1a := X1.at0
              have X1b := X1.at1
              have X1c := X1.lt
              have X2a := X2.at0
              have X2b := X2.at1
              have X2c := X2.lt
              go_wp2_with fail
              clear X0a X0b X0c
              clear X1a X1b X1c
              clear X2a X2b X2c
              have OO := one_any (fun _ => True) x1.bytes k v hk A6 A7 c6 c7 Wv (by rw [hln]; exact p3) (by rw [hln]; exact p6) hbl
              rw [hln] at OO
              by_cases hne : x1.bytes[k] ≠ v
              · simp only [if_pos hne] at OO
                refine (OO).mono ?_
                rintro e W4 ⟨rfl, hn⟩
                clear OO
                replace X0 := X0.below hn
                replace X1 := X1.below hn
                replace X2 := X2.below hn
                replace hf := hf.agree (Agree.below hn)
                replace hs10 := hs10.agree (Agree.below hn)
                replace p3 := p3.agree (Agree.below hn)
                replace p6 := p6.agree (Agree.below hn)
                replace hbn := hbn.trans (hn.mono hbn.size)
                clear hn
                obtain ⟨g2, o2, rfl, _, hg2, y1⟩ := bytes_open p3 hk0
                have z1 := y1 k hk
                obtain ⟨g3, o3, rfl, _, hg3, y2⟩ := bytes_open p6 hk1
                have z2 := y2 k hk2
                rw [List.getElem_set_self] at z2
                clear y1 y2
                have hbits : (v.toNat : Int) = 255 := by rw [show v = 255 from hC]; rfl
                have X0a := X0.at0
                have X0b := X0.at1
                have X0c := X0.lt
                have X1a := X1.at0
                have X1b := X1.at1
                have X1c := X1.lt
                have X2a := X2.at0
                have X2b := X2.at1
                have X2c := X2.lt
                go_wp2_with fail
                clear X0a X0b X0c
                clear X1a X1b X1c
                clear X2a X2b X2c
                exact ⟨⟨i + 1, m1, m2, by rw [m4], hbn⟩, m3⟩
              · simp only [if_neg hne] at OO
                refine (OO).mono ?_
                rintro e W4 ⟨rfl, hn⟩
                clear OO
                replace X0 := X0.below hn
                replace X1 := X1.below hn
                replace X2 := X2.below hn
                replace hf := hf.agree (Agree.below hn)
                replace hs10 := hs10.agree (Agree.below hn)
                replace p3 := p3.agree (Agree.below hn)
                replace p6 := p6.agree (Agree.below hn)
                replace hbn := hbn.trans (hn.mono hbn.size)
                clear hn
                have X0a := X0.at0
                have X0b := X0.at1
                have X0c := X0.lt
                have X1a := X1.at0
                have X1b := X1.at1
                have X1c := X1.lt
                have X2a := X2.at0
                have X2b := X2.at1
                have X2c := X2.lt
                go_wp2_with fail
                clear X0a X0b X0c
                clear X1a X1b X1c
                clear X2a X2b X2c
                exact ⟨⟨i + 1, m1, m2, by rw [m4], hbn⟩, m3⟩
            · simp only [Exit.then]
              have hn : Below wr.heap.size wr ((wr.alloc (.cells #[.int .i64 x2.sector, .slice A7 bs.length c7] 24)).alloc (.cells #[.int .i64 x1.sector, .slice A6 bs.length c6] 24)).drew := (((Below.refl _ _).alloc (Nat.le_refl _) _).alloc (by simp) _).drew
              have X1 : BoxAt ((wr.alloc (.cells #[.int .i64 x2.sector, .slice A7 bs.length c7] 24)).alloc (.cells #[.int .i64 x1.sector, .slice A6 bs.length c6] 24)).drew (wr.heap.size + 1) x1.sector (.slice A6 bs.length c6) := by have := (BoxAt.new (wr.alloc (.cells #[.int .i64 x2.sector, .slice A7 bs.length c7] 24)) x1.sector (.slice A6 bs.length c6)).below (Below.refl _ _).drew; rwa [World.size_alloc] at this
              have X2 : BoxAt ((wr.alloc (.cells #[.int .i64 x2.sector, .slice A7 bs.length c7] 24)).alloc (.cells #[.int .i64 x1.sector, .slice A6 bs.length c6] 24)).drew wr.heap.size x2.sector (.slice A7 bs.length c7) := ((BoxAt.new wr _ _).below ((Below.refl _ _).alloc (Nat.le_refl _) _)).below (Below.refl _ _).drew
              generalize hW : ((wr.alloc (.cells #[.int .i64 x2.sector, .slice A7 bs.length c7] 24)).alloc (.cells #[.int .i64 x1.sector, .slice A6 bs.length c6] 24)).drew = Wn at *
              clear hW kS
              have hbn := hbw.trans (hn.mono hbw.size)
              replace X0 := X0.below hn
              replace hf := hf.agree (Agree.below hn)
              replace hs10 := hs10.agree (Agree.below hn)
              replace p3 := p3.agree (Agree.below hn)
              replace p6 := p6.agree (Agree.below hn)
              clear hn p1 p2 p4 p5 hg1
              apply hK
              clear hK
              have VV := valid_any x2 A7 c7 Wn
              rw [hlen2, hval] at VV
              have X0a := X0.at0
              have X0b := X0.at1
              have X0c := X0.lt
              have X1a := X1.at0
              have X1b := X1.at1
              have X1c := X1.lt
              have X2a := X2.at0
              have X2b := X2.at1
              have X2c := X2.lt
              go_wp2_with fail
              clear X0a X0b X0c
              clear X1a X1b X1c
              clear X2a X2b X2c
              refine VV.mono ?_
              rintro e Wv ⟨rfl, hwv⟩
              have hn : Below Wn.heap.size Wn Wv := by rw [hwv]; exact (Below.refl _ _).alloc (Nat.le_refl _) _
              clear hwv VV
              replace X0 := X0.below hn
              replace X1 := X1.below hn
              replace X2 := X2.below hn
              replace hf := hf.agree (Agree.below hn)
              replace hs10 := hs10.agree (Agree.below hn)
              replace p3 := p3.agree (Agree.below hn)
              replace p6 := p6.agree (Agree.below hn)
              replace hbn := hbn.trans (hn.mono hbn.size)
              clear hn
              have X0a := X0.at0
              have X0b := X0.at1
              have X0c := X0.lt
              have X1a := X1.at0
              have X1b := X1.at1
              have X1c := X1.lt
              have X2a := X2.at0
              have X2b := X2.at1
              have X2c := X2.lt
              go_wp2_with fail
              clear X0a X0b X0c
              clear X1a X1b X1c
              clear X2a X2b X2c
              have OO := one_any (fun _ => True) x1.bytes k v hk A6 A7 c6 c7 Wv (by rw [hln]; exact p3) (by rw [hln]; exact p6) hbl
              rw [hln] at OO
              by_cases hne : x1.bytes[k] ≠ v
              · simp only [if_pos hne] at OO
                refine (OO).mono ?_
                rintro e W4 ⟨rfl, hn⟩
                clear OO
                replace X0 := X0.below hn
                replace X1 := X1.below hn
                replace X2 := X2.below hn
                replace hf := hf.agree (Agree.below hn)
                replace hs10 := hs10.agree (Agree.below hn)
                replace p3 := p3.agree (Agree.below hn)
                replace p6 := p6.agree (Agree.below hn)
                replace hbn := hbn.trans (hn.mono hbn.size)
                clear hn
                obtain ⟨g2, o2, rfl, _, hg2, y1⟩ := bytes_open p3 hk0
                have z1 := y1 k hk
                obtain ⟨g3, o3, rfl, _, hg3, y2⟩ := bytes_open p6 hk1
                have z2 := y2 k hk2
                rw [List.getElem_set_self] at z2
                clear y1 y2
                have hbits : (v.toNat : Int) = 255 := by rw [show v = 255 from hC]; rfl
                have X0a := X0.at0
                have X0b := X0.at1
                have X0c := X0.lt
                have X1a := X1.at0
                have X1b := X1.at1
                have X1c := X1.lt
                have X2a := X2.at0
                have X2b := X2.at1
                have X2c := X2.lt
                go_wp2_with fail
                clear X0a X0b X0c
                clear X1a X1b X1c
                clear X2a X2b X2c
                exact ⟨⟨i + 1, m1, m2, by rw [m4], hbn⟩, m3⟩
              · simp only [if_neg hne] at OO
                refine (OO).mono ?_
                rintro e W4 ⟨rfl, hn⟩
                clear OO
                replace X0 := X0.below hn
                replace X1 := X1.below hn
                replace X2 := X2.below hn
                replace hf := hf.agree (Agree.below hn)
                replace hs10 := hs10.agree (Agree.below hn)
                replace p3 := p3.agree (Agree.below hn)
                replace p6 := p6.agree (Agree.below hn)
                replace hbn := hbn.trans (hn.mono hbn.size)
                clear hn
                have X0a := X0.at0
                have X0b := X0.at1
                have X0c := X0.lt
                have X1a := X1.at0
                have X1b := X1.at1
                have X1c := X1.lt
                have X2a := X2.at0
                have X2b := X2.at1
                have X2c := X2.lt
                go_wp2_with fail
                clear X0a X0b X0c
                clear X1a X1b X1c
                clear X2a X2b X2c
                exact ⟨⟨i + 1, m1, m2, by rw [m4], hbn⟩, m3⟩
          · have r4 : ¬ (i : Int) < (l2.length : Int) := by omega
            replace hb := hb.trans (hbw.mono hb.size)
            clear hbw hi1 hi hlt
            have hE3 := hE1.1
            have hP3 := hP1.1
            clear hP1 hE1
            have X0a := X0.at0
            have X0b := X0.at1
            have X0c := X0.lt
            go_wp2_with fail
            clear X0a X0b X0c
            rename_i Q9 K9 hK9
            rcases hP2 with he1 | ⟨rfl, hl1, hz1⟩ <;> rcases hE2 with he2 | ⟨rfl, hl2, hz2⟩
            · have b1 : decide (e1 = 0) = false := decide_eq_false he1
              have b2 : decide (e2 = 0) = false := decide_eq_false he2
              have b3 : (e1 != 0) = true := bne_iff_ne.2 he1
              have b4 : (e2 != 0) = true := bne_iff_ne.2 he2
              clear hf hs5 hs10 hd hbig hbig2
              have X0a := X0.at0
              have X0b := X0.at1
              have X0c := X0.lt
              go_quiet (fail)
              clear X0a X0b X0c
              simp only [Exit.then]
              apply hK9
              go_wp2
              go_ret
              exact ⟨rfl, hb.trans ⟨rfl, rfl, rfl, Nat.le_refl _, fun _ _ => rfl⟩⟩
            · have b1 : decide (e1 = 0) = false := decide_eq_false he1
              have b3 : (e1 != 0) = true := bne_iff_ne.2 he1
              obtain ⟨hz0, hz1'⟩ := List.getElem?_eq_some_iff.1 hz2
              have hz2' : (0 : Int) < (l2.length : Int) := by omega
              obtain ⟨g2, o2, B2, d2, rfl, hg2, p2, t2, hm2⟩ := slice_get hs10 0 hz0
              rw [hz1'] at p2 t2 hm2
              simp only [Nat.zero_mul, Nat.add_zero] at p2 t2 hm2
              clear hz1' hz0 hz2
              have SS2 : ∀ W' : World, Below wr.heap.size wr W' → Calls Try.prog 31 #[.agg #[.int .i64 s, .slice B2 bs.length d2], .agg #[.int .i64 s, .slice A bs.length c]] W' fun e w'' => e = .returned (.bool true) ∧ Below wr.heap.size wr w'' := fun W' hn => by
                have h := same_any (fun _ => True) ⟨s, bs⟩ ⟨s, bs⟩ B2 A d2 c W' (hm2.agree (Agree.below hn)) ((hf.mono (fun _ _ => trivial)).agree (Agree.below hn)) (by simp only; omega)
                rw [show decide ((⟨s, bs⟩ : Fl) = ⟨s, bs⟩) = true from by simp] at h
                exact h.mono (fun e w'' h => ⟨h.1, hn.trans (h.2.mono hn.size)⟩)
              have j1 : (0 : Int) < s + 1 := by omega
              have j3 : IntKind.i64.wrap (s + 1) = s + 1 := IntWalk.i64_in _ (by omega)
              have j4 := hE3
              have j2 : (l2.length : Int) = s + 1 := hl2
              have kS : ∀ W' : World, Below wr.heap.size wr W' → W'.cell? ⟨w.heap.size, 0, none⟩ = some (.int .i64 s) ∧ W'.cell? ⟨w.heap.size, 1, none⟩ = some (.slice A bs.length c) ∧ W'.cell? ⟨g2, o2, none⟩ = some (.int .i64 s) ∧ W'.cell? ⟨g2, o2 + 1, none⟩ = some (.slice B2 bs.length d2) := fun W' hn => ⟨(X0.below hn).at0, (X0.below hn).at1, (hn.cell (p := ⟨g2, o2, none⟩) hg2).trans p2, (hn.cell (p := ⟨g2, o2 + 1, none⟩) hg2).trans t2⟩
              have hsz := hb.size
              clear hs5 hs10 hf hd hbig hbig2 hm2
              refine wp_region_held_drew (S := fun W' => W'.cell? ⟨w.heap.size, 0, none⟩ = some (.int .i64 s) ∧ W'.cell? ⟨w.heap.size, 1, none⟩ = some (.slice A bs.length c) ∧ W'.cell? ⟨g2, o2, none⟩ = some (.int .i64 s) ∧ W'.cell? ⟨g2, o2 + 1, none⟩ = some (.slice B2 bs.length d2)) (by kernel_rfl) (kS _ (Below.refl _ _).drew) (fun hHeld => ?_)
              refine wpAnyH_take (i := 0) (oi := ?oiC0) (v := ?vC0) ?hiC0 (by kernel_rfl) (by kernel_rfl) (by kernel_rfl) ?hQC0 (Or.inl ⟨?hwC0, ?hyC0⟩) (by assumption) ?restC0
              case hiC0 => (simp only [List.getElem?_toArray, List.getElem?_cons_zero]; rfl)
              case hQC0 => exact fun _ _ _ h => h
              case hwC0 => rfl
              case hyC0 => (intro w hSw; (try dsimp only at hSw); go_simp; try with_reducible rfl)
              try simp only [Act.put, List.setIfInBounds_toArray, List.set_cons_zero, List.set_cons_succ]
              refine wpAnyH_take (i := 1) (oi := ?oiC1) (v := ?vC1) ?hiC1 (by kernel_rfl) (by kernel_rfl) (by kernel_rfl) ?hQC1 (Or.inl ⟨?hwC1, ?hyC1⟩) (by assumption) ?restC1
              case hiC1 => (simp only [List.getElem?_toArray, List.getElem?_cons_succ, List.getElem?_cons_zero]; rfl)
              case hQC1 => exact fun _ _ _ h => h
              case hwC1 => rfl
              case hyC1 => (intro w hSw; (try dsimp only at hSw); go_simp; try with_reducible rfl)
              try simp only [Act.put, List.setIfInBounds_toArray, List.set_cons_zero, List.set_cons_succ]
              refine wpAnyH_take (i := 2) (oi := ?oiC2) (v := ?vC2) ?hiC2 (by kernel_rfl) (by kernel_rfl) (by kernel_rfl) ?hQC2 (Or.inl ⟨?hwC2, ?hyC2⟩) (by assumption) ?restC2
              case hiC2 => (simp only [List.getElem?_toArray, List.getElem?_cons_succ, List.getElem?_cons_zero]; rfl)
              case hQC2 => exact fun _ _ _ h => h
              case hwC2 => rfl
              case hyC2 => (intro w hSw; (try dsimp only at hSw); go_simp; try with_reducible rfl)
              try simp only [Act.put, List.setIfInBounds_toArray, List.set_cons_zero, List.set_cons_succ]
              refine wpAnyH_take (i := 3) (oi := ?oiC3) (v := ?vC3) ?hiC3 (by kernel_rfl) (by kernel_rfl) (by kernel_rfl) ?hQC3 (Or.inl ⟨?hwC3, ?hyC3⟩) (by assumption) ?restC3
              case hiC3 => (simp only [List.getElem?_toArray, List.getElem?_cons_succ, List.getElem?_cons_zero]; rfl)
              case hQC3 => exact fun _ _ _ h => h
              case hwC3 => rfl
              case hyC3 => (intro w hSw; (try dsimp only at hSw); go_simp; try with_reducible rfl)
              try simp only [Act.put, List.setIfInBounds_toArray, List.set_cons_zero, List.set_cons_succ]
              refine wpAnyH_take (i := 4) (oi := ?oiC4) (v := ?vC4) ?hiC4 (by kernel_rfl) (by kernel_rfl) (by kernel_rfl) ?hQC4 (Or.inl ⟨?hwC4, ?hyC4⟩) (by assumption) ?restC4
              case hiC4 => (simp only [List.getElem?_toArray, List.getElem?_cons_succ, List.getElem?_cons_zero]; rfl)
              case hQC4 => exact fun _ _ _ h => h
              case hwC4 => rfl
              case hyC4 => (intro w hSw; (try dsimp only at hSw); go_simp; try with_reducible rfl)
              try simp only [Act.put, List.setIfInBounds_toArray, List.set_cons_zero, List.set_cons_succ]
              refine wpAnyH_take (i := 5) (oi := ?oiC5) (v := undef) ?hiC5 (by kernel_rfl) (by kernel_rfl) (by kernel_rfl) ?hQC5 (Or.inr ⟨?hwC5, rfl⟩) (by assumption) ?restC5
              case hiC5 => (simp only [List.getElem?_toArray, List.getElem?_cons_succ, List.getElem?_cons_zero]; rfl)
              case hQC5 => exact fun _ _ _ h => h
              case hwC5 => rfl
              try simp only [Act.put, List.setIfInBounds_toArray, List.set_cons_zero, List.set_cons_succ]
              refine wpAnyH_take (i := 6) (oi := ?oiC6) (v := undef) ?hiC6 (by kernel_rfl) (by kernel_rfl) (by kernel_rfl) ?hQC6 (Or.inr ⟨?hwC6, rfl⟩) (by assumption) ?restC6
              case hiC6 => (simp only [List.getElem?_toArray, List.getElem?_cons_succ, List.getElem?_cons_zero]; rfl)
              case hQC6 => exact fun _ _ _ h => h
              case hwC6 => rfl
              try simp only [Act.put, List.setIfInBounds_toArray, List.set_cons_zero, List.set_cons_succ]
              refine wpAnyH_take (i := 7) (oi := ?oiC7) (v := undef) ?hiC7 (by kernel_rfl) (by kernel_rfl) (by kernel_rfl) ?hQC7 (Or.inr ⟨?hwC7, rfl⟩) (by assumption) ?restC7
              case hiC7 => (simp only [List.getElem?_toArray, List.getElem?_cons_succ, List.getElem?_cons_zero]; rfl)
              case hQC7 => exact fun _ _ _ h => h
              case hwC7 => rfl
              try simp only [Act.put, List.setIfInBounds_toArray, List.set_cons_zero, List.set_cons_succ]
              refine wpAnyH_take (i := 8) (oi := ?oiC8) (v := undef) ?hiC8 (by kernel_rfl) (by kernel_rfl) (by kernel_rfl) ?hQC8 (Or.inr ⟨?hwC8, rfl⟩) (by assumption) ?restC8
              case hiC8 => (simp only [List.getElem?_toArray, List.getElem?_cons_succ, List.getElem?_cons_zero]; rfl)
              case hQC8 => exact fun _ _ _ h => h
              case hwC8 => rfl
              try simp only [Act.put, List.setIfInBounds_toArray, List.set_cons_zero, List.set_cons_succ]
              refine wpAnyH_take (i := 9) (oi := ?oiC9) (v := undef) ?hiC9 (by kernel_rfl) (by kernel_rfl) (by kernel_rfl) ?hQC9 (Or.inr ⟨?hwC9, rfl⟩) (by assumption) ?restC9
              case hiC9 => (simp only [List.getElem?_toArray, List.getElem?_cons_succ, List.getElem?_cons_zero]; rfl)
              case hQC9 => exact fun _ _ _ h => h
              case hwC9 => rfl
              try simp only [Act.put, List.setIfInBounds_toArray, List.set_cons_zero, List.set_cons_succ]
              refine wpAnyH_take (i := 10) (oi := ?oiC10) (v := undef) ?hiC10 (by kernel_rfl) (by kernel_rfl) (by kernel_rfl) ?hQC10 (Or.inr ⟨?hwC10, rfl⟩) (by assumption) ?restC10
              case hiC10 => (simp only [List.getElem?_toArray, List.getElem?_cons_succ, List.getElem?_cons_zero]; rfl)
              case hQC10 => exact fun _ _ _ h => h
              case hwC10 => rfl
              try simp only [Act.put, List.setIfInBounds_toArray, List.set_cons_zero, List.set_cons_succ]
              refine wpAnyH_take (i := 11) (oi := ?oiC11) (v := undef) ?hiC11 (by kernel_rfl) (by kernel_rfl) (by kernel_rfl) ?hQC11 (Or.inr ⟨?hwC11, rfl⟩) (by assumption) ?restC11
              case hiC11 => (simp only [List.getElem?_toArray, List.getElem?_cons_succ, List.getElem?_cons_zero]; rfl)
              case hQC11 => exact fun _ _ _ h => h
              case hwC11 => rfl
              try simp only [Act.put, List.setIfInBounds_toArray, List.set_cons_zero, List.set_cons_succ]
              refine wpAnyH_take (i := 12) (oi := ?oiC12) (v := undef) ?hiC12 (by kernel_rfl) (by kernel_rfl) (by kernel_rfl) ?hQC12 (Or.inr ⟨?hwC12, rfl⟩) (by assumption) ?restC12
              case hiC12 => (simp only [List.getElem?_toArray, List.getElem?_cons_succ, List.getElem?_cons_zero]; rfl)
              case hQC12 => exact fun _ _ _ h => h
              case hwC12 => rfl
              try simp only [Act.put, List.setIfInBounds_toArray, List.set_cons_zero, List.set_cons_succ]
              refine wpAnyH_take (i := 13) (oi := ?oiC13) (v := undef) ?hiC13 (by kernel_rfl) (by kernel_rfl) (by kernel_rfl) ?hQC13 (Or.inr ⟨?hwC13, rfl⟩) (by assumption) ?restC13
              case hiC13 => (simp only [List.getElem?_toArray, List.getElem?_cons_succ, List.getElem?_cons_zero]; rfl)
              case hQC13 => exact fun _ _ _ h => h
              case hwC13 => rfl
              try simp only [Act.put, List.setIfInBounds_toArray, List.set_cons_zero, List.set_cons_succ]
              refine wpAnyH_take (i := 14) (oi := ?oiC14) (v := undef) ?hiC14 (by kernel_rfl) (by kernel_rfl) (by kernel_rfl) ?hQC14 (Or.inr ⟨?hwC14, rfl⟩) (by assumption) ?restC14
              case hiC14 => (simp only [List.getElem?_toArray, List.getElem?_cons_succ, List.getElem?_cons_zero]; rfl)
              case hQC14 => exact fun _ _ _ h => h
              case hwC14 => rfl
              try simp only [Act.put, List.setIfInBounds_toArray, List.set_cons_zero, List.set_cons_succ]
              refine wpAnyH_take (i := 15) (oi := ?oiC15) (v := undef) ?hiC15 (by kernel_rfl) (by kernel_rfl) (by kernel_rfl) ?hQC15 (Or.inr ⟨?hwC15, rfl⟩) (by assumption) ?restC15
              case hiC15 => (simp only [List.getElem?_toArray, List.getElem?_cons_succ, List.getElem?_cons_zero]; rfl)
              case hQC15 => exact fun _ _ _ h => h
              case hwC15 => rfl
              try simp only [Act.put, List.setIfInBounds_toArray, List.set_cons_zero, List.set_cons_succ]
              refine wpAnyH_take (i := 16) (oi := ?oiC16) (v := undef) ?hiC16 (by kernel_rfl) (by kernel_rfl) (by kernel_rfl) ?hQC16 (Or.inr ⟨?hwC16, rfl⟩) (by assumption) ?restC16
              case hiC16 => (simp only [List.getElem?_toArray, List.getElem?_cons_succ, List.getElem?_cons_zero]; rfl)
              case hQC16 => exact fun _ _ _ h => h
              case hwC16 => rfl
              try simp only [Act.put, List.setIfInBounds_toArray, List.set_cons_zero, List.set_cons_succ]
              refine wpAnyH_take (i := 17) (oi := ?oiC17) (v := undef) ?hiC17 (by kernel_rfl) (by kernel_rfl) (by kernel_rfl) ?hQC17 (Or.inr ⟨?hwC17, rfl⟩) (by assumption) ?restC17
              case hiC17 => (simp only [List.getElem?_toArray, List.getElem?_cons_succ, List.getElem?_cons_zero]; rfl)
              case hQC17 => exact fun _ _ _ h => h
              case hwC17 => rfl
              try simp only [Act.put, List.setIfInBounds_toArray, List.set_cons_zero, List.set_cons_succ]
              refine wpAnyH_take (i := 18) (oi := ?oiC18) (v := ?vC18) ?hiC18 (by kernel_rfl) (by kernel_rfl) (by kernel_rfl) ?hQC18 (Or.inl ⟨?hwC18, ?hyC18⟩) (by assumption) ?restC18
              case hiC18 => (simp only [List.getElem?_toArray, List.getElem?_cons_succ, List.getElem?_cons_zero]; rfl)
              case hQC18 => exact fun _ _ _ h => h
              case hwC18 => rfl
              case hyC18 => (intro w hSw; (try dsimp only at hSw); go_simp; try with_reducible rfl)
              try simp only [Act.put, List.setIfInBounds_toArray, List.set_cons_zero, List.set_cons_succ]
              refine wpAnyH_take (i := 19) (oi := ?oiC19) (v := ?vC19) ?hiC19 (by kernel_rfl) (by kernel_rfl) (by kernel_rfl) ?hQC19 (Or.inl ⟨?hwC19, ?hyC19⟩) (by assumption) ?restC19
              case hiC19 => (simp only [List.getElem?_toArray, List.getElem?_cons_succ, List.getElem?_cons_zero]; rfl)
              case hQC19 => exact fun _ _ _ h => h
              case hwC19 => rfl
              case hyC19 => (intro w hSw; (try dsimp only at hSw); go_simp; try with_reducible rfl)
              try simp only [Act.put, List.setIfInBounds_toArray, List.set_cons_zero, List.set_cons_succ]
              refine wpAnyH_take (i := 20) (oi := ?oiC20) (v := ?vC20) ?hiC20 (by kernel_rfl) (by kernel_rfl) (by kernel_rfl) ?hQC20 (Or.inl ⟨?hwC20, ?hyC20⟩) (by assumption) ?restC20
              case hiC20 => (simp only [List.getElem?_toArray, List.getElem?_cons_succ, List.getElem?_cons_zero]; rfl)
              case hQC20 => exact fun _ _ _ h => h
              case hwC20 => rfl
              case hyC20 => (intro w hSw; (try dsimp only at hSw); go_simp; try with_reducible rfl)
              try simp only [Act.put, List.setIfInBounds_toArray, List.set_cons_zero, List.set_cons_succ]
              refine wpAnyH_take (i := 21) (oi := ?oiC21) (v := ?vC21) ?hiC21 (by kernel_rfl) (by kernel_rfl) (by kernel_rfl) ?hQC21 (Or.inl ⟨?hwC21, ?hyC21⟩) (by assumption) ?restC21
              case hiC21 => (simp only [List.getElem?_toArray, List.getElem?_cons_succ, List.getElem?_cons_zero]; rfl)
              case hQC21 => exact fun _ _ _ h => h
              case hwC21 => rfl
              case hyC21 => (intro w hSw; (try dsimp only at hSw); go_simp; try with_reducible rfl)
              try simp only [Act.put, List.setIfInBounds_toArray, List.set_cons_zero, List.set_cons_succ]
              refine wpAnyH_take (i := 22) (oi := ?oiC22) (v := ?vC22) ?hiC22 (by kernel_rfl) (by kernel_rfl) (by kernel_rfl) ?hQC22 (Or.inl ⟨?hwC22, ?hyC22⟩) (by assumption) ?restC22
              case hiC22 => (simp only [List.getElem?_toArray, List.getElem?_cons_succ, List.getElem?_cons_zero]; rfl)
              case hQC22 => exact fun _ _ _ h => h
              case hwC22 => rfl
              case hyC22 => (intro w hSw; (try dsimp only at hSw); go_simp; try with_reducible rfl)
              try simp only [Act.put, List.setIfInBounds_toArray, List.set_cons_zero, List.set_cons_succ]
              refine wpAnyH_take (i := 23) (oi := ?oiC23) (v := ?vC23) ?hiC23 (by kernel_rfl) (by kernel_rfl) (by kernel_rfl) ?hQC23 (Or.inl ⟨?hwC23, ?hyC23⟩) (by assumption) ?restC23
              case hiC23 => (simp only [List.getElem?_toArray, List.getElem?_cons_succ, List.getElem?_cons_zero]; rfl)
              case hQC23 => exact fun _ _ _ h => h
              case hwC23 => rfl
              case hyC23 => (intro w hSw; (try dsimp only at hSw); go_simp; try with_reducible rfl)
              try simp only [Act.put, List.setIfInBounds_toArray, List.set_cons_zero, List.set_cons_succ]
              refine wpAnyH_take (i := 24) (oi := ?oiC24) (v := ?vC24) ?hiC24 (by kernel_rfl) (by kernel_rfl) (by kernel_rfl) ?hQC24 (Or.inl ⟨?hwC24, ?hyC24⟩) (by assumption) ?restC24
              case hiC24 => (simp only [List.getElem?_toArray, List.getElem?_cons_succ, List.getElem?_cons_zero]; rfl)
              case hQC24 => exact fun _ _ _ h => h
              case hwC24 => rfl
              case hyC24 => (intro w hSw; (try dsimp only at hSw); go_simp; try with_reducible rfl)
              try simp only [Act.put, List.setIfInBounds_toArray, List.set_cons_zero, List.set_cons_succ]
              refine wpAnyH_take (i := 25) (oi := ?oiC25) (v := ?vC25) ?hiC25 (by kernel_rfl) (by kernel_rfl) (by kernel_rfl) ?hQC25 (Or.inl ⟨?hwC25, ?hyC25⟩) (by assumption) ?restC25
              case hiC25 => (simp only [List.getElem?_toArray, List.getElem?_cons_succ, List.getElem?_cons_zero]; rfl)
              case hQC25 => exact fun _ _ _ h => h
              case hwC25 => rfl
              case hyC25 => (intro w hSw; (try dsimp only at hSw); go_simp; try with_reducible rfl)
              try simp only [Act.put, List.setIfInBounds_toArray, List.set_cons_zero, List.set_cons_succ]
              refine wpAnyH_take (i := 26) (oi := ?oiC26) (v := ?vC26) ?hiC26 (by kernel_rfl) (by kernel_rfl) (by kernel_rfl) ?hQC26 (Or.inl ⟨?hwC26, ?hyC26⟩) (by assumption) ?restC26
              case hiC26 => (simp only [List.getElem?_toArray, List.getElem?_cons_succ, List.getElem?_cons_zero]; rfl)
              case hQC26 => exact fun _ _ _ h => h
              case hwC26 => rfl
              case hyC26 => (intro w hSw; (try dsimp only at hSw); go_simp; try with_reducible rfl)
              try simp only [Act.put, List.setIfInBounds_toArray, List.set_cons_zero, List.set_cons_succ]
              refine wpAnyH_take (i := 27) (oi := ?oiC27) (v := ?vC27) ?hiC27 (by kernel_rfl) (by kernel_rfl) (by kernel_rfl) ?hQC27 (Or.inl ⟨?hwC27, ?hyC27⟩) (by assumption) ?restC27
              case hiC27 => (simp only [List.getElem?_toArray, List.getElem?_cons_succ, List.getElem?_cons_zero]; rfl)
              case hQC27 => exact fun _ _ _ h => h
              case hwC27 => rfl
              case hyC27 => (intro w hSw; (try dsimp only at hSw); go_simp; try with_reducible rfl)
              try simp only [Act.put, List.setIfInBounds_toArray, List.set_cons_zero, List.set_cons_succ]
              refine wpAnyH_take (i := 28) (oi := ?oiC28) (v := ?vC28) ?hiC28 (by kernel_rfl) (by kernel_rfl) (by kernel_rfl) ?hQC28 (Or.inl ⟨?hwC28, ?hyC28⟩) (by assumption) ?restC28
              case hiC28 => (simp only [List.getElem?_toArray, List.getElem?_cons_succ, List.getElem?_cons_zero]; rfl)
              case hQC28 => exact fun _ _ _ h => h
              case hwC28 => rfl
              case hyC28 => (intro w hSw; (try dsimp only at hSw); go_simp; try with_reducible rfl)
              try simp only [Act.put, List.setIfInBounds_toArray, List.set_cons_zero, List.set_cons_succ]
              refine wpAnyH_take (i := 29) (oi := ?oiC29) (v := ?vC29) ?hiC29 (by kernel_rfl) (by kernel_rfl) (by kernel_rfl) ?hQC29 (Or.inl ⟨?hwC29, ?hyC29⟩) (by assumption) ?restC29
              case hiC29 => (simp only [List.getElem?_toArray, List.getElem?_cons_succ, List.getElem?_cons_zero]; rfl)
              case hQC29 => exact fun _ _ _ h => h
              case hwC29 => rfl
              case hyC29 => (intro w hSw; (try dsimp only at hSw); go_simp; try with_reducible rfl)
              try simp only [Act.put, List.setIfInBounds_toArray, List.set_cons_zero, List.set_cons_succ]
              refine wpAnyH_take (i := 30) (oi := ?oiC30) (v := ?vC30) ?hiC30 (by kernel_rfl) (by kernel_rfl) (by kernel_rfl) ?hQC30 (Or.inl ⟨?hwC30, ?hyC30⟩) (by assumption) ?restC30
              case hiC30 => (simp only [List.getElem?_toArray, List.getElem?_cons_succ, List.getElem?_cons_zero]; rfl)
              case hQC30 => exact fun _ _ _ h => h
              case hwC30 => rfl
              case hyC30 => (intro w hSw; (try dsimp only at hSw); go_simp; try with_reducible rfl)
              try simp only [Act.put, List.setIfInBounds_toArray, List.set_cons_zero, List.set_cons_succ]
              refine wpAnyH_take (i := 31) (oi := ?oiC31) (v := ?vC31) ?hiC31 (by kernel_rfl) (by kernel_rfl) (by kernel_rfl) ?hQC31 (Or.inl ⟨?hwC31, ?hyC31⟩) (by assumption) ?restC31
              case hiC31 => (simp only [List.getElem?_toArray, List.getElem?_cons_succ, List.getElem?_cons_zero]; rfl)
              case hQC31 => exact fun _ _ _ h => h
              case hwC31 => rfl
              case hyC31 => (intro w hSw; (try dsimp only at hSw); go_simp; try with_reducible rfl)
              try simp only [Act.put, List.setIfInBounds_toArray, List.set_cons_zero, List.set_cons_succ]
              refine wpAnyH_take (i := 32) (oi := ?oiC32) (v := ?vC32) ?hiC32 (by kernel_rfl) (by kernel_rfl) (by kernel_rfl) ?hQC32 (Or.inl ⟨?hwC32, ?hyC32⟩) (by assumption) ?restC32
              case hiC32 => (simp only [List.getElem?_toArray, List.getElem?_cons_succ, List.getElem?_cons_zero]; rfl)
              case hQC32 => exact fun _ _ _ h => h
              case hwC32 => rfl
              case hyC32 => (intro w hSw; (try dsimp only at hSw); go_simp; try with_reducible rfl)
              try simp only [Act.put, List.setIfInBounds_toArray, List.set_cons_zero, List.set_cons_succ]
              refine wpAnyH_take (i := 33) (oi := ?oiC33) (v := ?vC33) ?hiC33 (by kernel_rfl) (by kernel_rfl) (by kernel_rfl) ?hQC33 (Or.inl ⟨?hwC33, ?hyC33⟩) (by assumption) ?restC33
              case hiC33 => (simp only [List.getElem?_toArray, List.getElem?_cons_succ, List.getElem?_cons_zero]; rfl)
              case hQC33 => exact fun _ _ _ h => h
              case hwC33 => rfl
              case hyC33 => (intro w hSw; (try dsimp only at hSw); go_simp; try with_reducible rfl)
              try simp only [Act.put, List.setIfInBounds_toArray, List.set_cons_zero, List.set_cons_succ]
              refine wpAnyH_take (i := 34) (oi := ?oiC34) (v := ?vC34) ?hiC34 (by kernel_rfl) (by kernel_rfl) (by kernel_rfl) ?hQC34 (Or.inl ⟨?hwC34, ?hyC34⟩) (by assumption) ?restC34
              case hiC34 => (simp only [List.getElem?_toArray, List.getElem?_cons_succ, List.getElem?_cons_zero]; rfl)
              case hQC34 => exact fun _ _ _ h => h
              case hwC34 => rfl
              case hyC34 => (intro w hSw; (try dsimp only at hSw); go_simp; try with_reducible rfl)
              try simp only [Act.put, List.setIfInBounds_toArray, List.set_cons_zero, List.set_cons_succ]
              refine wpAnyH_ready (rs := [35]) (by kernel_rfl) (by simp) ?_
              refine AllReadyH.cons (o := ?oiC35) ?hiC35 (fun K hK => ?restC35) AllReadyH.nil
              case hiC35 => (simp only [List.getElem?_toArray, List.getElem?_cons_succ, List.getElem?_cons_zero]; rfl)
              go_simp
              refine Calls.mono (SS2 _ ((Below.refl _ _).drew)) ?_
              rintro e Wc2 ⟨rfl, hc2⟩
              go_wp2_with fail
              refine hK.out _ _ (kS _ hc2) (fun hHeld => ?_)
              clear hK K
              try simp only [Act.put, List.setIfInBounds_toArray, List.set_cons_zero, List.set_cons_succ]
              refine wpAnyH_take (i := 36) (oi := ?oiC36) (v := ?vC36) ?hiC36 (by kernel_rfl) (by kernel_rfl) (by kernel_rfl) ?hQC36 (Or.inl ⟨?hwC36, ?hyC36⟩) (by assumption) ?restC36
              case hiC36 => (simp only [List.getElem?_toArray, List.getElem?_cons_succ, List.getElem?_cons_zero]; rfl)
              case hQC36 => exact fun _ _ _ h => h
              case hwC36 => rfl
              case hyC36 => (intro w hSw; (try dsimp only at hSw); go_simp; try with_reducible rfl)
              try simp only [Act.put, List.setIfInBounds_toArray, List.set_cons_zero, List.set_cons_succ]
              refine wpAnyH_take (i := 37) (oi := ?oiC37) (v := ?vC37) ?hiC37 (by kernel_rfl) (by kernel_rfl) (by kernel_rfl) ?hQC37 (Or.inl ⟨?hwC37, ?hyC37⟩) (by assumption) ?restC37
              case hiC37 => (simp only [List.getElem?_toArray, List.getElem?_cons_succ, List.getElem?_cons_zero]; rfl)
              case hQC37 => exact fun _ _ _ h => h
              case hwC37 => rfl
              case hyC37 => (intro w hSw; (try dsimp only at hSw); go_simp; try with_reducible rfl)
              try simp only [Act.put, List.setIfInBounds_toArray, List.set_cons_zero, List.set_cons_succ]
              refine wpAnyH_take (i := 38) (oi := ?oiC38) (v := ?vC38) ?hiC38 (by kernel_rfl) (by kernel_rfl) (by kernel_rfl) ?hQC38 (Or.inl ⟨?hwC38, ?hyC38⟩) (by assumption) ?restC38
              case hiC38 => (simp only [List.getElem?_toArray, List.getElem?_cons_succ, List.getElem?_cons_zero]; rfl)
              case hQC38 => exact fun _ _ _ h => h
              case hwC38 => rfl
              case hyC38 => (intro w hSw; (try dsimp only at hSw); go_simp; try with_reducible rfl)
              try simp only [Act.put, List.setIfInBounds_toArray, List.set_cons_zero, List.set_cons_succ]
              refine wpAnyH_take (i := 39) (oi := ?oiC39) (v := ?vC39) ?hiC39 (by kernel_rfl) (by kernel_rfl) (by kernel_rfl) ?hQC39 (Or.inl ⟨?hwC39, ?hyC39⟩) (by assumption) ?restC39
              case hiC39 => (simp only [List.getElem?_toArray, List.getElem?_cons_succ, List.getElem?_cons_zero]; rfl)
              case hQC39 => exact fun _ _ _ h => h
              case hwC39 => rfl
              case hyC39 => (intro w hSw; (try dsimp only at hSw); go_simp; try with_reducible rfl)
              try simp only [Act.put, List.setIfInBounds_toArray, List.set_cons_zero, List.set_cons_succ]
              refine wpAnyH_done (by kernel_rfl) ?_ _
              simp only [Exit.then]
              apply hK9
              clear hK9
              go_wp2
              go_ret
              exact ⟨rfl, hb.trans (hc2.mono hb.size)⟩
            · obtain ⟨hz0, hz1'⟩ := List.getElem?_eq_some_iff.1 hz1
              have hz2' : (0 : Int) < (l1.length : Int) := by omega
              obtain ⟨g1, o1, B1, d1, rfl, hg1, p1, t1, hm1⟩ := slice_get hs5 0 hz0
              rw [hz1'] at p1 t1 hm1
              simp only [Nat.zero_mul, Nat.add_zero] at p1 t1 hm1
              clear hz1' hz0 hz1
              have SS1 : ∀ W' : World, Below wr.heap.size wr W' → Calls Try.prog 31 #[.agg #[.int .i64 s, .slice B1 bs.length d1], .agg #[.int .i64 s, .slice A bs.length c]] W' fun e w'' => e = .returned (.bool true) ∧ Below wr.heap.size wr w'' := fun W' hn => by
                have h := same_any (fun _ => True) ⟨s, bs⟩ ⟨s, bs⟩ B1 A d1 c W' (hm1.agree (Agree.below hn)) ((hf.mono (fun _ _ => trivial)).agree (Agree.below hn)) (by simp only; omega)
                rw [show decide ((⟨s, bs⟩ : Fl) = ⟨s, bs⟩) = true from by simp] at h
                exact h.mono (fun e w'' h => ⟨h.1, hn.trans (h.2.mono hn.size)⟩)
              have i1 : (l1.length : Int) = (data.length : Int) + 1 := by omega
              have i2 : (0 : Int) < (data.length : Int) + 1 := by omega
              have i3 : IntKind.i64.wrap ((data.length : Int) + 1) = (data.length : Int) + 1 := IntWalk.i64_in _ (by omega)
              have b2 : decide (e2 = 0) = false := decide_eq_false he2
              have b4 : (e2 != 0) = true := bne_iff_ne.2 he2
              have kS : ∀ W' : World, Below wr.heap.size wr W' → W'.cell? ⟨w.heap.size, 0, none⟩ = some (.int .i64 s) ∧ W'.cell? ⟨w.heap.size, 1, none⟩ = some (.slice A bs.length c) ∧ W'.cell? ⟨g1, o1, none⟩ = some (.int .i64 s) ∧ W'.cell? ⟨g1, o1 + 1, none⟩ = some (.slice B1 bs.length d1) := fun W' hn => ⟨(X0.below hn).at0, (X0.below hn).at1, (hn.cell (p := ⟨g1, o1, none⟩) hg1).trans p1, (hn.cell (p := ⟨g1, o1 + 1, none⟩) hg1).trans t1⟩
              have hsz := hb.size
              clear hs5 hs10 hf hd hbig hbig2 hm1
              clear hl1
              refine wp_region_held_drew (S := fun W' => W'.cell? ⟨w.heap.size, 0, none⟩ = some (.int .i64 s) ∧ W'.cell? ⟨w.heap.size, 1, none⟩ = some (.slice A bs.length c) ∧ W'.cell? ⟨g1, o1, none⟩ = some (.int .i64 s) ∧ W'.cell? ⟨g1, o1 + 1, none⟩ = some (.slice B1 bs.length d1)) (by kernel_rfl) (kS _ (Below.refl _ _).drew) (fun hHeld => ?_)
              refine wpAnyH_take (i := 0) (oi := ?oiB0) (v := ?vB0) ?hiB0 (by kernel_rfl) (by kernel_rfl) (by kernel_rfl) ?hQB0 (Or.inl ⟨?hwB0, ?hyB0⟩) (by assumption) ?restB0
              case hiB0 => (simp only [List.getElem?_toArray, List.getElem?_cons_zero]; rfl)
              case hQB0 => exact fun _ _ _ h => h
              case hwB0 => rfl
              case hyB0 => (intro w hSw; (try dsimp only at hSw); go_simp; try with_reducible rfl)
              try simp only [Act.put, List.setIfInBounds_toArray, List.set_cons_zero, List.set_cons_succ]
              refine wpAnyH_take (i := 1) (oi := ?oiB1) (v := ?vB1) ?hiB1 (by kernel_rfl) (by kernel_rfl) (by kernel_rfl) ?hQB1 (Or.inl ⟨?hwB1, ?hyB1⟩) (by assumption) ?restB1
              case hiB1 => (simp only [List.getElem?_toArray, List.getElem?_cons_succ, List.getElem?_cons_zero]; rfl)
              case hQB1 => exact fun _ _ _ h => h
              case hwB1 => rfl
              case hyB1 => (intro w hSw; (try dsimp only at hSw); go_simp; try with_reducible rfl)
              try simp only [Act.put, List.setIfInBounds_toArray, List.set_cons_zero, List.set_cons_succ]
              refine wpAnyH_take (i := 2) (oi := ?oiB2) (v := ?vB2) ?hiB2 (by kernel_rfl) (by kernel_rfl) (by kernel_rfl) ?hQB2 (Or.inl ⟨?hwB2, ?hyB2⟩) (by assumption) ?restB2
              case hiB2 => (simp only [List.getElem?_toArray, List.getElem?_cons_succ, List.getElem?_cons_zero]; rfl)
              case hQB2 => exact fun _ _ _ h => h
              case hwB2 => rfl
              case hyB2 => (intro w hSw; (try dsimp only at hSw); go_simp; try with_reducible rfl)
              try simp only [Act.put, List.setIfInBounds_toArray, List.set_cons_zero, List.set_cons_succ]
              refine wpAnyH_take (i := 3) (oi := ?oiB3) (v := ?vB3) ?hiB3 (by kernel_rfl) (by kernel_rfl) (by kernel_rfl) ?hQB3 (Or.inl ⟨?hwB3, ?hyB3⟩) (by assumption) ?restB3
              case hiB3 => (simp only [List.getElem?_toArray, List.getElem?_cons_succ, List.getElem?_cons_zero]; rfl)
              case hQB3 => exact fun _ _ _ h => h
              case hwB3 => rfl
              case hyB3 => (intro w hSw; (try dsimp only at hSw); go_simp; try with_reducible rfl)
              try simp only [Act.put, List.setIfInBounds_toArray, List.set_cons_zero, List.set_cons_succ]
              refine wpAnyH_take (i := 4) (oi := ?oiB4) (v := ?vB4) ?hiB4 (by kernel_rfl) (by kernel_rfl) (by kernel_rfl) ?hQB4 (Or.inl ⟨?hwB4, ?hyB4⟩) (by assumption) ?restB4
              case hiB4 => (simp only [List.getElem?_toArray, List.getElem?_cons_succ, List.getElem?_cons_zero]; rfl)
              case hQB4 => exact fun _ _ _ h => h
              case hwB4 => rfl
              case hyB4 => (intro w hSw; (try dsimp only at hSw); go_simp; try with_reducible rfl)
              try simp only [Act.put, List.setIfInBounds_toArray, List.set_cons_zero, List.set_cons_succ]
              refine wpAnyH_take (i := 5) (oi := ?oiB5) (v := ?vB5) ?hiB5 (by kernel_rfl) (by kernel_rfl) (by kernel_rfl) ?hQB5 (Or.inl ⟨?hwB5, ?hyB5⟩) (by assumption) ?restB5
              case hiB5 => (simp only [List.getElem?_toArray, List.getElem?_cons_succ, List.getElem?_cons_zero]; rfl)
              case hQB5 => exact fun _ _ _ h => h
              case hwB5 => rfl
              case hyB5 => (intro w hSw; (try dsimp only at hSw); go_simp; try with_reducible rfl)
              try simp only [Act.put, List.setIfInBounds_toArray, List.set_cons_zero, List.set_cons_succ]
              refine wpAnyH_take (i := 6) (oi := ?oiB6) (v := ?vB6) ?hiB6 (by kernel_rfl) (by kernel_rfl) (by kernel_rfl) ?hQB6 (Or.inl ⟨?hwB6, ?hyB6⟩) (by assumption) ?restB6
              case hiB6 => (simp only [List.getElem?_toArray, List.getElem?_cons_succ, List.getElem?_cons_zero]; rfl)
              case hQB6 => exact fun _ _ _ h => h
              case hwB6 => rfl
              case hyB6 => (intro w hSw; (try dsimp only at hSw); go_simp; try with_reducible rfl)
              try simp only [Act.put, List.setIfInBounds_toArray, List.set_cons_zero, List.set_cons_succ]
              refine wpAnyH_take (i := 7) (oi := ?oiB7) (v := ?vB7) ?hiB7 (by kernel_rfl) (by kernel_rfl) (by kernel_rfl) ?hQB7 (Or.inl ⟨?hwB7, ?hyB7⟩) (by assumption) ?restB7
              case hiB7 => (simp only [List.getElem?_toArray, List.getElem?_cons_succ, List.getElem?_cons_zero]; rfl)
              case hQB7 => exact fun _ _ _ h => h
              case hwB7 => rfl
              case hyB7 => (intro w hSw; (try dsimp only at hSw); go_simp; try with_reducible rfl)
              try simp only [Act.put, List.setIfInBounds_toArray, List.set_cons_zero, List.set_cons_succ]
              refine wpAnyH_take (i := 8) (oi := ?oiB8) (v := ?vB8) ?hiB8 (by kernel_rfl) (by kernel_rfl) (by kernel_rfl) ?hQB8 (Or.inl ⟨?hwB8, ?hyB8⟩) (by assumption) ?restB8
              case hiB8 => (simp only [List.getElem?_toArray, List.getElem?_cons_succ, List.getElem?_cons_zero]; rfl)
              case hQB8 => exact fun _ _ _ h => h
              case hwB8 => rfl
              case hyB8 => (intro w hSw; (try dsimp only at hSw); go_simp; try with_reducible rfl)
              try simp only [Act.put, List.setIfInBounds_toArray, List.set_cons_zero, List.set_cons_succ]
              refine wpAnyH_take (i := 9) (oi := ?oiB9) (v := ?vB9) ?hiB9 (by kernel_rfl) (by kernel_rfl) (by kernel_rfl) ?hQB9 (Or.inl ⟨?hwB9, ?hyB9⟩) (by assumption) ?restB9
              case hiB9 => (simp only [List.getElem?_toArray, List.getElem?_cons_succ, List.getElem?_cons_zero]; rfl)
              case hQB9 => exact fun _ _ _ h => h
              case hwB9 => rfl
              case hyB9 => (intro w hSw; (try dsimp only at hSw); go_simp; try with_reducible rfl)
              try simp only [Act.put, List.setIfInBounds_toArray, List.set_cons_zero, List.set_cons_succ]
              refine wpAnyH_take (i := 10) (oi := ?oiB10) (v := ?vB10) ?hiB10 (by kernel_rfl) (by kernel_rfl) (by kernel_rfl) ?hQB10 (Or.inl ⟨?hwB10, ?hyB10⟩) (by assumption) ?restB10
              case hiB10 => (simp only [List.getElem?_toArray, List.getElem?_cons_succ, List.getElem?_cons_zero]; rfl)
              case hQB10 => exact fun _ _ _ h => h
              case hwB10 => rfl
              case hyB10 => (intro w hSw; (try dsimp only at hSw); go_simp; try with_reducible rfl)
              try simp only [Act.put, List.setIfInBounds_toArray, List.set_cons_zero, List.set_cons_succ]
              refine wpAnyH_take (i := 11) (oi := ?oiB11) (v := ?vB11) ?hiB11 (by kernel_rfl) (by kernel_rfl) (by kernel_rfl) ?hQB11 (Or.inl ⟨?hwB11, ?hyB11⟩) (by assumption) ?restB11
              case hiB11 => (simp only [List.getElem?_toArray, List.getElem?_cons_succ, List.getElem?_cons_zero]; rfl)
              case hQB11 => exact fun _ _ _ h => h
              case hwB11 => rfl
              case hyB11 => (intro w hSw; (try dsimp only at hSw); go_simp; try with_reducible rfl)
              try simp only [Act.put, List.setIfInBounds_toArray, List.set_cons_zero, List.set_cons_succ]
              refine wpAnyH_take (i := 12) (oi := ?oiB12) (v := ?vB12) ?hiB12 (by kernel_rfl) (by kernel_rfl) (by kernel_rfl) ?hQB12 (Or.inl ⟨?hwB12, ?hyB12⟩) (by assumption) ?restB12
              case hiB12 => (simp only [List.getElem?_toArray, List.getElem?_cons_succ, List.getElem?_cons_zero]; rfl)
              case hQB12 => exact fun _ _ _ h => h
              case hwB12 => rfl
              case hyB12 => (intro w hSw; (try dsimp only at hSw); go_simp; try with_reducible rfl)
              try simp only [Act.put, List.setIfInBounds_toArray, List.set_cons_zero, List.set_cons_succ]
              refine wpAnyH_take (i := 13) (oi := ?oiB13) (v := ?vB13) ?hiB13 (by kernel_rfl) (by kernel_rfl) (by kernel_rfl) ?hQB13 (Or.inl ⟨?hwB13, ?hyB13⟩) (by assumption) ?restB13
              case hiB13 => (simp only [List.getElem?_toArray, List.getElem?_cons_succ, List.getElem?_cons_zero]; rfl)
              case hQB13 => exact fun _ _ _ h => h
              case hwB13 => rfl
              case hyB13 => (intro w hSw; (try dsimp only at hSw); go_simp; try with_reducible rfl)
              try simp only [Act.put, List.setIfInBounds_toArray, List.set_cons_zero, List.set_cons_succ]
              refine wpAnyH_take (i := 14) (oi := ?oiB14) (v := ?vB14) ?hiB14 (by kernel_rfl) (by kernel_rfl) (by kernel_rfl) ?hQB14 (Or.inl ⟨?hwB14, ?hyB14⟩) (by assumption) ?restB14
              case hiB14 => (simp only [List.getElem?_toArray, List.getElem?_cons_succ, List.getElem?_cons_zero]; rfl)
              case hQB14 => exact fun _ _ _ h => h
              case hwB14 => rfl
              case hyB14 => (intro w hSw; (try dsimp only at hSw); go_simp; try with_reducible rfl)
              try simp only [Act.put, List.setIfInBounds_toArray, List.set_cons_zero, List.set_cons_succ]
              refine wpAnyH_take (i := 15) (oi := ?oiB15) (v := ?vB15) ?hiB15 (by kernel_rfl) (by kernel_rfl) (by kernel_rfl) ?hQB15 (Or.inl ⟨?hwB15, ?hyB15⟩) (by assumption) ?restB15
              case hiB15 => (simp only [List.getElem?_toArray, List.getElem?_cons_succ, List.getElem?_cons_zero]; rfl)
              case hQB15 => exact fun _ _ _ h => h
              case hwB15 => rfl
              case hyB15 => (intro w hSw; (try dsimp only at hSw); go_simp; try with_reducible rfl)
              try simp only [Act.put, List.setIfInBounds_toArray, List.set_cons_zero, List.set_cons_succ]
              refine wpAnyH_ready (rs := [16]) (by kernel_rfl) (by simp) ?_
              refine AllReadyH.cons (o := ?oiB16) ?hiB16 (fun K hK => ?restB16) AllReadyH.nil
              case hiB16 => (simp only [List.getElem?_toArray, List.getElem?_cons_succ, List.getElem?_cons_zero]; rfl)
              go_simp
              refine Calls.mono (SS1 _ ((Below.refl _ _).drew)) ?_
              rintro e Wc1 ⟨rfl, hc1⟩
              go_wp2_with fail
              refine hK.out _ _ (kS _ hc1) (fun hHeld => ?_)
              clear hK K
              try simp only [Act.put, List.setIfInBounds_toArray, List.set_cons_zero, List.set_cons_succ]
              refine wpAnyH_take (i := 17) (oi := ?oiB17) (v := ?vB17) ?hiB17 (by kernel_rfl) (by kernel_rfl) (by kernel_rfl) ?hQB17 (Or.inl ⟨?hwB17, ?hyB17⟩) (by assumption) ?restB17
              case hiB17 => (simp only [List.getElem?_toArray, List.getElem?_cons_succ, List.getElem?_cons_zero]; rfl)
              case hQB17 => exact fun _ _ _ h => h
              case hwB17 => rfl
              case hyB17 => (intro w hSw; (try dsimp only at hSw); go_simp; try with_reducible rfl)
              try simp only [Act.put, List.setIfInBounds_toArray, List.set_cons_zero, List.set_cons_succ]
              refine wpAnyH_take (i := 18) (oi := ?oiB18) (v := ?vB18) ?hiB18 (by kernel_rfl) (by kernel_rfl) (by kernel_rfl) ?hQB18 (Or.inl ⟨?hwB18, ?hyB18⟩) (by assumption) ?restB18
              case hiB18 => (simp only [List.getElem?_toArray, List.getElem?_cons_succ, List.getElem?_cons_zero]; rfl)
              case hQB18 => exact fun _ _ _ h => h
              case hwB18 => rfl
              case hyB18 => (intro w hSw; (try dsimp only at hSw); go_simp; try with_reducible rfl)
              try simp only [Act.put, List.setIfInBounds_toArray, List.set_cons_zero, List.set_cons_succ]
              refine wpAnyH_take (i := 19) (oi := ?oiB19) (v := ?vB19) ?hiB19 (by kernel_rfl) (by kernel_rfl) (by kernel_rfl) ?hQB19 (Or.inl ⟨?hwB19, ?hyB19⟩) (by assumption) ?restB19
              case hiB19 => (simp only [List.getElem?_toArray, List.getElem?_cons_succ, List.getElem?_cons_zero]; rfl)
              case hQB19 => exact fun _ _ _ h => h
              case hwB19 => rfl
              case hyB19 => (intro w hSw; (try dsimp only at hSw); go_simp; try with_reducible rfl)
              try simp only [Act.put, List.setIfInBounds_toArray, List.set_cons_zero, List.set_cons_succ]
              refine wpAnyH_take (i := 20) (oi := ?oiB20) (v := ?vB20) ?hiB20 (by kernel_rfl) (by kernel_rfl) (by kernel_rfl) ?hQB20 (Or.inl ⟨?hwB20, ?hyB20⟩) (by assumption) ?restB20
              case hiB20 => (simp only [List.getElem?_toArray, List.getElem?_cons_succ, List.getElem?_cons_zero]; rfl)
              case hQB20 => exact fun _ _ _ h => h
              case hwB20 => rfl
              case hyB20 => (intro w hSw; (try dsimp only at hSw); go_simp; try with_reducible rfl)
              try simp only [Act.put, List.setIfInBounds_toArray, List.set_cons_zero, List.set_cons_succ]
              refine wpAnyH_take (i := 21) (oi := ?oiB21) (v := ?vB21) ?hiB21 (by kernel_rfl) (by kernel_rfl) (by kernel_rfl) ?hQB21 (Or.inl ⟨?hwB21, ?hyB21⟩) (by assumption) ?restB21
              case hiB21 => (simp only [List.getElem?_toArray, List.getElem?_cons_succ, List.getElem?_cons_zero]; rfl)
              case hQB21 => exact fun _ _ _ h => h
              case hwB21 => rfl
              case hyB21 => (intro w hSw; (try dsimp only at hSw); go_simp; try with_reducible rfl)
              try simp only [Act.put, List.setIfInBounds_toArray, List.set_cons_zero, List.set_cons_succ]
              refine wpAnyH_take (i := 22) (oi := ?oiB22) (v := ?vB22) ?hiB22 (by kernel_rfl) (by kernel_rfl) (by kernel_rfl) ?hQB22 (Or.inl ⟨?hwB22, ?hyB22⟩) (by assumption) ?restB22
              case hiB22 => (simp only [List.getElem?_toArray, List.getElem?_cons_succ, List.getElem?_cons_zero]; rfl)
              case hQB22 => exact fun _ _ _ h => h
              case hwB22 => rfl
              case hyB22 => (intro w hSw; (try dsimp only at hSw); go_simp; try with_reducible rfl)
              try simp only [Act.put, List.setIfInBounds_toArray, List.set_cons_zero, List.set_cons_succ]
              refine wpAnyH_take (i := 23) (oi := ?oiB23) (v := ?vB23) ?hiB23 (by kernel_rfl) (by kernel_rfl) (by kernel_rfl) ?hQB23 (Or.inl ⟨?hwB23, ?hyB23⟩) (by assumption) ?restB23
              case hiB23 => (simp only [List.getElem?_toArray, List.getElem?_cons_succ, List.getElem?_cons_zero]; rfl)
              case hQB23 => exact fun _ _ _ h => h
              case hwB23 => rfl
              case hyB23 => (intro w hSw; (try dsimp only at hSw); go_simp; try with_reducible rfl)
              try simp only [Act.put, List.setIfInBounds_toArray, List.set_cons_zero, List.set_cons_succ]
              refine wpAnyH_take (i := 24) (oi := ?oiB24) (v := undef) ?hiB24 (by kernel_rfl) (by kernel_rfl) (by kernel_rfl) ?hQB24 (Or.inr ⟨?hwB24, rfl⟩) (by assumption) ?restB24
              case hiB24 => (simp only [List.getElem?_toArray, List.getElem?_cons_succ, List.getElem?_cons_zero]; rfl)
              case hQB24 => exact fun _ _ _ h => h
              case hwB24 => rfl
              try simp only [Act.put, List.setIfInBounds_toArray, List.set_cons_zero, List.set_cons_succ]
              refine wpAnyH_take (i := 25) (oi := ?oiB25) (v := undef) ?hiB25 (by kernel_rfl) (by kernel_rfl) (by kernel_rfl) ?hQB25 (Or.inr ⟨?hwB25, rfl⟩) (by assumption) ?restB25
              case hiB25 => (simp only [List.getElem?_toArray, List.getElem?_cons_succ, List.getElem?_cons_zero]; rfl)
              case hQB25 => exact fun _ _ _ h => h
              case hwB25 => rfl
              try simp only [Act.put, List.setIfInBounds_toArray, List.set_cons_zero, List.set_cons_succ]
              refine wpAnyH_take (i := 26) (oi := ?oiB26) (v := undef) ?hiB26 (by kernel_rfl) (by kernel_rfl) (by kernel_rfl) ?hQB26 (Or.inr ⟨?hwB26, rfl⟩) (by assumption) ?restB26
              case hiB26 => (simp only [List.getElem?_toArray, List.getElem?_cons_succ, List.getElem?_cons_zero]; rfl)
              case hQB26 => exact fun _ _ _ h => h
              case hwB26 => rfl
              try simp only [Act.put, List.setIfInBounds_toArray, List.set_cons_zero, List.set_cons_succ]
              refine wpAnyH_take (i := 27) (oi := ?oiB27) (v := undef) ?hiB27 (by kernel_rfl) (by kernel_rfl) (by kernel_rfl) ?hQB27 (Or.inr ⟨?hwB27, rfl⟩) (by assumption) ?restB27
              case hiB27 => (simp only [List.getElem?_toArray, List.getElem?_cons_succ, List.getElem?_cons_zero]; rfl)
              case hQB27 => exact fun _ _ _ h => h
              case hwB27 => rfl
              try simp only [Act.put, List.setIfInBounds_toArray, List.set_cons_zero, List.set_cons_succ]
              refine wpAnyH_take (i := 28) (oi := ?oiB28) (v := undef) ?hiB28 (by kernel_rfl) (by kernel_rfl) (by kernel_rfl) ?hQB28 (Or.inr ⟨?hwB28, rfl⟩) (by assumption) ?restB28
              case hiB28 => (simp only [List.getElem?_toArray, List.getElem?_cons_succ, List.getElem?_cons_zero]; rfl)
              case hQB28 => exact fun _ _ _ h => h
              case hwB28 => rfl
              try simp only [Act.put, List.setIfInBounds_toArray, List.set_cons_zero, List.set_cons_succ]
              refine wpAnyH_take (i := 29) (oi := ?oiB29) (v := undef) ?hiB29 (by kernel_rfl) (by kernel_rfl) (by kernel_rfl) ?hQB29 (Or.inr ⟨?hwB29, rfl⟩) (by assumption) ?restB29
              case hiB29 => (simp only [List.getElem?_toArray, List.getElem?_cons_succ, List.getElem?_cons_zero]; rfl)
              case hQB29 => exact fun _ _ _ h => h
              case hwB29 => rfl
              try simp only [Act.put, List.setIfInBounds_toArray, List.set_cons_zero, List.set_cons_succ]
              refine wpAnyH_take (i := 30) (oi := ?oiB30) (v := undef) ?hiB30 (by kernel_rfl) (by kernel_rfl) (by kernel_rfl) ?hQB30 (Or.inr ⟨?hwB30, rfl⟩) (by assumption) ?restB30
              case hiB30 => (simp only [List.getElem?_toArray, List.getElem?_cons_succ, List.getElem?_cons_zero]; rfl)
              case hQB30 => exact fun _ _ _ h => h
              case hwB30 => rfl
              try simp only [Act.put, List.setIfInBounds_toArray, List.set_cons_zero, List.set_cons_succ]
              refine wpAnyH_take (i := 31) (oi := ?oiB31) (v := undef) ?hiB31 (by kernel_rfl) (by kernel_rfl) (by kernel_rfl) ?hQB31 (Or.inr ⟨?hwB31, rfl⟩) (by assumption) ?restB31
              case hiB31 => (simp only [List.getElem?_toArray, List.getElem?_cons_succ, List.getElem?_cons_zero]; rfl)
              case hQB31 => exact fun _ _ _ h => h
              case hwB31 => rfl
              try simp only [Act.put, List.setIfInBounds_toArray, List.set_cons_zero, List.set_cons_succ]
              refine wpAnyH_take (i := 32) (oi := ?oiB32) (v := undef) ?hiB32 (by kernel_rfl) (by kernel_rfl) (by kernel_rfl) ?hQB32 (Or.inr ⟨?hwB32, rfl⟩) (by assumption) ?restB32
              case hiB32 => (simp only [List.getElem?_toArray, List.getElem?_cons_succ, List.getElem?_cons_zero]; rfl)
              case hQB32 => exact fun _ _ _ h => h
              case hwB32 => rfl
              try simp only [Act.put, List.setIfInBounds_toArray, List.set_cons_zero, List.set_cons_succ]
              refine wpAnyH_take (i := 33) (oi := ?oiB33) (v := undef) ?hiB33 (by kernel_rfl) (by kernel_rfl) (by kernel_rfl) ?hQB33 (Or.inr ⟨?hwB33, rfl⟩) (by assumption) ?restB33
              case hiB33 => (simp only [List.getElem?_toArray, List.getElem?_cons_succ, List.getElem?_cons_zero]; rfl)
              case hQB33 => exact fun _ _ _ h => h
              case hwB33 => rfl
              try simp only [Act.put, List.setIfInBounds_toArray, List.set_cons_zero, List.set_cons_succ]
              refine wpAnyH_take (i := 34) (oi := ?oiB34) (v := undef) ?hiB34 (by kernel_rfl) (by kernel_rfl) (by kernel_rfl) ?hQB34 (Or.inr ⟨?hwB34, rfl⟩) (by assumption) ?restB34
              case hiB34 => (simp only [List.getElem?_toArray, List.getElem?_cons_succ, List.getElem?_cons_zero]; rfl)
              case hQB34 => exact fun _ _ _ h => h
              case hwB34 => rfl
              try simp only [Act.put, List.setIfInBounds_toArray, List.set_cons_zero, List.set_cons_succ]
              refine wpAnyH_take (i := 35) (oi := ?oiB35) (v := undef) ?hiB35 (by kernel_rfl) (by kernel_rfl) (by kernel_rfl) ?hQB35 (Or.inr ⟨?hwB35, rfl⟩) (by assumption) ?restB35
              case hiB35 => (simp only [List.getElem?_toArray, List.getElem?_cons_succ, List.getElem?_cons_zero]; rfl)
              case hQB35 => exact fun _ _ _ h => h
              case hwB35 => rfl
              try simp only [Act.put, List.setIfInBounds_toArray, List.set_cons_zero, List.set_cons_succ]
              refine wpAnyH_take (i := 36) (oi := ?oiB36) (v := undef) ?hiB36 (by kernel_rfl) (by kernel_rfl) (by kernel_rfl) ?hQB36 (Or.inr ⟨?hwB36, rfl⟩) (by assumption) ?restB36
              case hiB36 => (simp only [List.getElem?_toArray, List.getElem?_cons_succ, List.getElem?_cons_zero]; rfl)
              case hQB36 => exact fun _ _ _ h => h
              case hwB36 => rfl
              try simp only [Act.put, List.setIfInBounds_toArray, List.set_cons_zero, List.set_cons_succ]
              refine wpAnyH_take (i := 37) (oi := ?oiB37) (v := ?vB37) ?hiB37 (by kernel_rfl) (by kernel_rfl) (by kernel_rfl) ?hQB37 (Or.inl ⟨?hwB37, ?hyB37⟩) (by assumption) ?restB37
              case hiB37 => (simp only [List.getElem?_toArray, List.getElem?_cons_succ, List.getElem?_cons_zero]; rfl)
              case hQB37 => exact fun _ _ _ h => h
              case hwB37 => rfl
              case hyB37 => (intro w hSw; (try dsimp only at hSw); go_simp; try with_reducible rfl)
              try simp only [Act.put, List.setIfInBounds_toArray, List.set_cons_zero, List.set_cons_succ]
              refine wpAnyH_take (i := 38) (oi := ?oiB38) (v := ?vB38) ?hiB38 (by kernel_rfl) (by kernel_rfl) (by kernel_rfl) ?hQB38 (Or.inl ⟨?hwB38, ?hyB38⟩) (by assumption) ?restB38
              case hiB38 => (simp only [List.getElem?_toArray, List.getElem?_cons_succ, List.getElem?_cons_zero]; rfl)
              case hQB38 => exact fun _ _ _ h => h
              case hwB38 => rfl
              case hyB38 => (intro w hSw; (try dsimp only at hSw); go_simp; try with_reducible rfl)
              try simp only [Act.put, List.setIfInBounds_toArray, List.set_cons_zero, List.set_cons_succ]
              refine wpAnyH_take (i := 39) (oi := ?oiB39) (v := ?vB39) ?hiB39 (by kernel_rfl) (by kernel_rfl) (by kernel_rfl) ?hQB39 (Or.inl ⟨?hwB39, ?hyB39⟩) (by assumption) ?restB39
              case hiB39 => (simp only [List.getElem?_toArray, List.getElem?_cons_succ, List.getElem?_cons_zero]; rfl)
              case hQB39 => exact fun _ _ _ h => h
              case hwB39 => rfl
              case hyB39 => (intro w hSw; (try dsimp only at hSw); go_simp; try with_reducible rfl)
              try simp only [Act.put, List.setIfInBounds_toArray, List.set_cons_zero, List.set_cons_succ]
              refine wpAnyH_done (by kernel_rfl) ?_ _
              simp only [Exit.then]
              apply hK9
              clear hK9
              go_wp2
              go_ret
              exact ⟨rfl, hb.trans (hc1.mono hb.size)⟩
            · obtain ⟨hz0, hz1'⟩ := List.getElem?_eq_some_iff.1 hz1
              have hz2' : (0 : Int) < (l1.length : Int) := by omega
              obtain ⟨g1, o1, B1, d1, rfl, hg1, p1, t1, hm1⟩ := slice_get hs5 0 hz0
              rw [hz1'] at p1 t1 hm1
              simp only [Nat.zero_mul, Nat.add_zero] at p1 t1 hm1
              clear hz1' hz0 hz1
              have SS1 : ∀ W' : World, Below wr.heap.size wr W' → Calls Try.prog 31 #[.agg #[.int .i64 s, .slice B1 bs.length d1], .agg #[.int .i64 s, .slice A bs.length c]] W' fun e w'' => e = .returned (.bool true) ∧ Below wr.heap.size wr w'' := fun W' hn => by
                have h := same_any (fun _ => True) ⟨s, bs⟩ ⟨s, bs⟩ B1 A d1 c W' (hm1.agree (Agree.below hn)) ((hf.mono (fun _ _ => trivial)).agree (Agree.below hn)) (by simp only; omega)
                rw [show decide ((⟨s, bs⟩ : Fl) = ⟨s, bs⟩) = true from by simp] at h
                exact h.mono (fun e w'' h => ⟨h.1, hn.trans (h.2.mono hn.size)⟩)
              have i1 : (l1.length : Int) = (data.length : Int) + 1 := by omega
              have i2 : (0 : Int) < (data.length : Int) + 1 := by omega
              have i3 : IntKind.i64.wrap ((data.length : Int) + 1) = (data.length : Int) + 1 := IntWalk.i64_in _ (by omega)
              obtain ⟨hz0, hz1'⟩ := List.getElem?_eq_some_iff.1 hz2
              have hz2' : (0 : Int) < (l2.length : Int) := by omega
              obtain ⟨g2, o2, B2, d2, rfl, hg2, p2, t2, hm2⟩ := slice_get hs10 0 hz0
              rw [hz1'] at p2 t2 hm2
              simp only [Nat.zero_mul, Nat.add_zero] at p2 t2 hm2
              clear hz1' hz0 hz2
              have SS2 : ∀ W' : World, Below wr.heap.size wr W' → Calls Try.prog 31 #[.agg #[.int .i64 s, .slice B2 bs.length d2], .agg #[.int .i64 s, .slice A bs.length c]] W' fun e w'' => e = .returned (.bool true) ∧ Below wr.heap.size wr w'' := fun W' hn => by
                have h := same_any (fun _ => True) ⟨s, bs⟩ ⟨s, bs⟩ B2 A d2 c W' (hm2.agree (Agree.below hn)) ((hf.mono (fun _ _ => trivial)).agree (Agree.below hn)) (by simp only; omega)
                rw [show decide ((⟨s, bs⟩ : Fl) = ⟨s, bs⟩) = true from by simp] at h
                exact h.mono (fun e w'' h => ⟨h.1, hn.trans (h.2.mono hn.size)⟩)
              have j1 : (0 : Int) < s + 1 := by omega
              have j3 : IntKind.i64.wrap (s + 1) = s + 1 := IntWalk.i64_in _ (by omega)
              have j4 := hE3
              have j2 : (l2.length : Int) = s + 1 := hl2
              have kS : ∀ W' : World, Below wr.heap.size wr W' → W'.cell? ⟨w.heap.size, 0, none⟩ = some (.int .i64 s) ∧ W'.cell? ⟨w.heap.size, 1, none⟩ = some (.slice A bs.length c) ∧ W'.cell? ⟨g1, o1, none⟩ = some (.int .i64 s) ∧ W'.cell? ⟨g1, o1 + 1, none⟩ = some (.slice B1 bs.length d1) ∧ W'.cell? ⟨g2, o2, none⟩ = some (.int .i64 s) ∧ W'.cell? ⟨g2, o2 + 1, none⟩ = some (.slice B2 bs.length d2) := fun W' hn => ⟨(X0.below hn).at0, (X0.below hn).at1, (hn.cell (p := ⟨g1, o1, none⟩) hg1).trans p1, (hn.cell (p := ⟨g1, o1 + 1, none⟩) hg1).trans t1, (hn.cell (p := ⟨g2, o2, none⟩) hg2).trans p2, (hn.cell (p := ⟨g2, o2 + 1, none⟩) hg2).trans t2⟩
              have hsz := hb.size
              clear hs5 hs10 hf hd hbig hbig2 hm1 hm2
              clear hl1
              refine wp_region_held_drew (S := fun W' => W'.cell? ⟨w.heap.size, 0, none⟩ = some (.int .i64 s) ∧ W'.cell? ⟨w.heap.size, 1, none⟩ = some (.slice A bs.length c) ∧ W'.cell? ⟨g1, o1, none⟩ = some (.int .i64 s) ∧ W'.cell? ⟨g1, o1 + 1, none⟩ = some (.slice B1 bs.length d1) ∧ W'.cell? ⟨g2, o2, none⟩ = some (.int .i64 s) ∧ W'.cell? ⟨g2, o2 + 1, none⟩ = some (.slice B2 bs.length d2)) (by kernel_rfl) (kS _ (Below.refl _ _).drew) (fun hHeld => ?_)
              refine wpAnyH_take (i := 0) (oi := ?oiD0) (v := ?vD0) ?hiD0 (by kernel_rfl) (by kernel_rfl) (by kernel_rfl) ?hQD0 (Or.inl ⟨?hwD0, ?hyD0⟩) (by assumption) ?restD0
              case hiD0 => (simp only [List.getElem?_toArray, List.getElem?_cons_zero]; rfl)
              case hQD0 => exact fun _ _ _ h => h
              case hwD0 => rfl
              case hyD0 => (intro w hSw; (try dsimp only at hSw); go_simp; try with_reducible rfl)
              try simp only [Act.put, List.setIfInBounds_toArray, List.set_cons_zero, List.set_cons_succ]
              refine wpAnyH_take (i := 1) (oi := ?oiD1) (v := ?vD1) ?hiD1 (by kernel_rfl) (by kernel_rfl) (by kernel_rfl) ?hQD1 (Or.inl ⟨?hwD1, ?hyD1⟩) (by assumption) ?restD1
              case hiD1 => (simp only [List.getElem?_toArray, List.getElem?_cons_succ, List.getElem?_cons_zero]; rfl)
              case hQD1 => exact fun _ _ _ h => h
              case hwD1 => rfl
              case hyD1 => (intro w hSw; (try dsimp only at hSw); go_simp; try with_reducible rfl)
              try simp only [Act.put, List.setIfInBounds_toArray, List.set_cons_zero, List.set_cons_succ]
              refine wpAnyH_take (i := 2) (oi := ?oiD2) (v := ?vD2) ?hiD2 (by kernel_rfl) (by kernel_rfl) (by kernel_rfl) ?hQD2 (Or.inl ⟨?hwD2, ?hyD2⟩) (by assumption) ?restD2
              case hiD2 => (simp only [List.getElem?_toArray, List.getElem?_cons_succ, List.getElem?_cons_zero]; rfl)
              case hQD2 => exact fun _ _ _ h => h
              case hwD2 => rfl
              case hyD2 => (intro w hSw; (try dsimp only at hSw); go_simp; try with_reducible rfl)
              try simp only [Act.put, List.setIfInBounds_toArray, List.set_cons_zero, List.set_cons_succ]
              refine wpAnyH_take (i := 3) (oi := ?oiD3) (v := ?vD3) ?hiD3 (by kernel_rfl) (by kernel_rfl) (by kernel_rfl) ?hQD3 (Or.inl ⟨?hwD3, ?hyD3⟩) (by assumption) ?restD3
              case hiD3 => (simp only [List.getElem?_toArray, List.getElem?_cons_succ, List.getElem?_cons_zero]; rfl)
              case hQD3 => exact fun _ _ _ h => h
              case hwD3 => rfl
              case hyD3 => (intro w hSw; (try dsimp only at hSw); go_simp; try with_reducible rfl)
              try simp only [Act.put, List.setIfInBounds_toArray, List.set_cons_zero, List.set_cons_succ]
              refine wpAnyH_take (i := 4) (oi := ?oiD4) (v := ?vD4) ?hiD4 (by kernel_rfl) (by kernel_rfl) (by kernel_rfl) ?hQD4 (Or.inl ⟨?hwD4, ?hyD4⟩) (by assumption) ?restD4
              case hiD4 => (simp only [List.getElem?_toArray, List.getElem?_cons_succ, List.getElem?_cons_zero]; rfl)
              case hQD4 => exact fun _ _ _ h => h
              case hwD4 => rfl
              case hyD4 => (intro w hSw; (try dsimp only at hSw); go_simp; try with_reducible rfl)
              try simp only [Act.put, List.setIfInBounds_toArray, List.set_cons_zero, List.set_cons_succ]
              refine wpAnyH_take (i := 5) (oi := ?oiD5) (v := ?vD5) ?hiD5 (by kernel_rfl) (by kernel_rfl) (by kernel_rfl) ?hQD5 (Or.inl ⟨?hwD5, ?hyD5⟩) (by assumption) ?restD5
              case hiD5 => (simp only [List.getElem?_toArray, List.getElem?_cons_succ, List.getElem?_cons_zero]; rfl)
              case hQD5 => exact fun _ _ _ h => h
              case hwD5 => rfl
              case hyD5 => (intro w hSw; (try dsimp only at hSw); go_simp; try with_reducible rfl)
              try simp only [Act.put, List.setIfInBounds_toArray, List.set_cons_zero, List.set_cons_succ]
              refine wpAnyH_take (i := 6) (oi := ?oiD6) (v := ?vD6) ?hiD6 (by kernel_rfl) (by kernel_rfl) (by kernel_rfl) ?hQD6 (Or.inl ⟨?hwD6, ?hyD6⟩) (by assumption) ?restD6
              case hiD6 => (simp only [List.getElem?_toArray, List.getElem?_cons_succ, List.getElem?_cons_zero]; rfl)
              case hQD6 => exact fun _ _ _ h => h
              case hwD6 => rfl
              case hyD6 => (intro w hSw; (try dsimp only at hSw); go_simp; try with_reducible rfl)
              try simp only [Act.put, List.setIfInBounds_toArray, List.set_cons_zero, List.set_cons_succ]
              refine wpAnyH_take (i := 7) (oi := ?oiD7) (v := ?vD7) ?hiD7 (by kernel_rfl) (by kernel_rfl) (by kernel_rfl) ?hQD7 (Or.inl ⟨?hwD7, ?hyD7⟩) (by assumption) ?restD7
              case hiD7 => (simp only [List.getElem?_toArray, List.getElem?_cons_succ, List.getElem?_cons_zero]; rfl)
              case hQD7 => exact fun _ _ _ h => h
              case hwD7 => rfl
              case hyD7 => (intro w hSw; (try dsimp only at hSw); go_simp; try with_reducible rfl)
              try simp only [Act.put, List.setIfInBounds_toArray, List.set_cons_zero, List.set_cons_succ]
              refine wpAnyH_take (i := 8) (oi := ?oiD8) (v := ?vD8) ?hiD8 (by kernel_rfl) (by kernel_rfl) (by kernel_rfl) ?hQD8 (Or.inl ⟨?hwD8, ?hyD8⟩) (by assumption) ?restD8
              case hiD8 => (simp only [List.getElem?_toArray, List.getElem?_cons_succ, List.getElem?_cons_zero]; rfl)
              case hQD8 => exact fun _ _ _ h => h
              case hwD8 => rfl
              case hyD8 => (intro w hSw; (try dsimp only at hSw); go_simp; try with_reducible rfl)
              try simp only [Act.put, List.setIfInBounds_toArray, List.set_cons_zero, List.set_cons_succ]
              refine wpAnyH_take (i := 9) (oi := ?oiD9) (v := ?vD9) ?hiD9 (by kernel_rfl) (by kernel_rfl) (by kernel_rfl) ?hQD9 (Or.inl ⟨?hwD9, ?hyD9⟩) (by assumption) ?restD9
              case hiD9 => (simp only [List.getElem?_toArray, List.getElem?_cons_succ, List.getElem?_cons_zero]; rfl)
              case hQD9 => exact fun _ _ _ h => h
              case hwD9 => rfl
              case hyD9 => (intro w hSw; (try dsimp only at hSw); go_simp; try with_reducible rfl)
              try simp only [Act.put, List.setIfInBounds_toArray, List.set_cons_zero, List.set_cons_succ]
              refine wpAnyH_take (i := 10) (oi := ?oiD10) (v := ?vD10) ?hiD10 (by kernel_rfl) (by kernel_rfl) (by kernel_rfl) ?hQD10 (Or.inl ⟨?hwD10, ?hyD10⟩) (by assumption) ?restD10
              case hiD10 => (simp only [List.getElem?_toArray, List.getElem?_cons_succ, List.getElem?_cons_zero]; rfl)
              case hQD10 => exact fun _ _ _ h => h
              case hwD10 => rfl
              case hyD10 => (intro w hSw; (try dsimp only at hSw); go_simp; try with_reducible rfl)
              try simp only [Act.put, List.setIfInBounds_toArray, List.set_cons_zero, List.set_cons_succ]
              refine wpAnyH_take (i := 11) (oi := ?oiD11) (v := ?vD11) ?hiD11 (by kernel_rfl) (by kernel_rfl) (by kernel_rfl) ?hQD11 (Or.inl ⟨?hwD11, ?hyD11⟩) (by assumption) ?restD11
              case hiD11 => (simp only [List.getElem?_toArray, List.getElem?_cons_succ, List.getElem?_cons_zero]; rfl)
              case hQD11 => exact fun _ _ _ h => h
              case hwD11 => rfl
              case hyD11 => (intro w hSw; (try dsimp only at hSw); go_simp; try with_reducible rfl)
              try simp only [Act.put, List.setIfInBounds_toArray, List.set_cons_zero, List.set_cons_succ]
              refine wpAnyH_take (i := 12) (oi := ?oiD12) (v := ?vD12) ?hiD12 (by kernel_rfl) (by kernel_rfl) (by kernel_rfl) ?hQD12 (Or.inl ⟨?hwD12, ?hyD12⟩) (by assumption) ?restD12
              case hiD12 => (simp only [List.getElem?_toArray, List.getElem?_cons_succ, List.getElem?_cons_zero]; rfl)
              case hQD12 => exact fun _ _ _ h => h
              case hwD12 => rfl
              case hyD12 => (intro w hSw; (try dsimp only at hSw); go_simp; try with_reducible rfl)
              try simp only [Act.put, List.setIfInBounds_toArray, List.set_cons_zero, List.set_cons_succ]
              refine wpAnyH_take (i := 13) (oi := ?oiD13) (v := ?vD13) ?hiD13 (by kernel_rfl) (by kernel_rfl) (by kernel_rfl) ?hQD13 (Or.inl ⟨?hwD13, ?hyD13⟩) (by assumption) ?restD13
              case hiD13 => (simp only [List.getElem?_toArray, List.getElem?_cons_succ, List.getElem?_cons_zero]; rfl)
              case hQD13 => exact fun _ _ _ h => h
              case hwD13 => rfl
              case hyD13 => (intro w hSw; (try dsimp only at hSw); go_simp; try with_reducible rfl)
              try simp only [Act.put, List.setIfInBounds_toArray, List.set_cons_zero, List.set_cons_succ]
              refine wpAnyH_take (i := 14) (oi := ?oiD14) (v := ?vD14) ?hiD14 (by kernel_rfl) (by kernel_rfl) (by kernel_rfl) ?hQD14 (Or.inl ⟨?hwD14, ?hyD14⟩) (by assumption) ?restD14
              case hiD14 => (simp only [List.getElem?_toArray, List.getElem?_cons_succ, List.getElem?_cons_zero]; rfl)
              case hQD14 => exact fun _ _ _ h => h
              case hwD14 => rfl
              case hyD14 => (intro w hSw; (try dsimp only at hSw); go_simp; try with_reducible rfl)
              try simp only [Act.put, List.setIfInBounds_toArray, List.set_cons_zero, List.set_cons_succ]
              refine wpAnyH_take (i := 15) (oi := ?oiD15) (v := ?vD15) ?hiD15 (by kernel_rfl) (by kernel_rfl) (by kernel_rfl) ?hQD15 (Or.inl ⟨?hwD15, ?hyD15⟩) (by assumption) ?restD15
              case hiD15 => (simp only [List.getElem?_toArray, List.getElem?_cons_succ, List.getElem?_cons_zero]; rfl)
              case hQD15 => exact fun _ _ _ h => h
              case hwD15 => rfl
              case hyD15 => (intro w hSw; (try dsimp only at hSw); go_simp; try with_reducible rfl)
              try simp only [Act.put, List.setIfInBounds_toArray, List.set_cons_zero, List.set_cons_succ]
              refine wpAnyH_ready (rs := [16]) (by kernel_rfl) (by simp) ?_
              refine AllReadyH.cons (o := ?oiD16) ?hiD16 (fun K hK => ?restD16) AllReadyH.nil
              case hiD16 => (simp only [List.getElem?_toArray, List.getElem?_cons_succ, List.getElem?_cons_zero]; rfl)
              go_simp
              refine Calls.mono (SS1 _ ((Below.refl _ _).drew)) ?_
              rintro e Wc1 ⟨rfl, hc1⟩
              go_wp2_with fail
              refine hK.out _ _ (kS _ hc1) (fun hHeld => ?_)
              clear hK K
              try simp only [Act.put, List.setIfInBounds_toArray, List.set_cons_zero, List.set_cons_succ]
              refine wpAnyH_take (i := 17) (oi := ?oiD17) (v := ?vD17) ?hiD17 (by kernel_rfl) (by kernel_rfl) (by kernel_rfl) ?hQD17 (Or.inl ⟨?hwD17, ?hyD17⟩) (by assumption) ?restD17
              case hiD17 => (simp only [List.getElem?_toArray, List.getElem?_cons_succ, List.getElem?_cons_zero]; rfl)
              case hQD17 => exact fun _ _ _ h => h
              case hwD17 => rfl
              case hyD17 => (intro w hSw; (try dsimp only at hSw); go_simp; try with_reducible rfl)
              try simp only [Act.put, List.setIfInBounds_toArray, List.set_cons_zero, List.set_cons_succ]
              refine wpAnyH_take (i := 18) (oi := ?oiD18) (v := ?vD18) ?hiD18 (by kernel_rfl) (by kernel_rfl) (by kernel_rfl) ?hQD18 (Or.inl ⟨?hwD18, ?hyD18⟩) (by assumption) ?restD18
              case hiD18 => (simp only [List.getElem?_toArray, List.getElem?_cons_succ, List.getElem?_cons_zero]; rfl)
              case hQD18 => exact fun _ _ _ h => h
              case hwD18 => rfl
              case hyD18 => (intro w hSw; (try dsimp only at hSw); go_simp; try with_reducible rfl)
              try simp only [Act.put, List.setIfInBounds_toArray, List.set_cons_zero, List.set_cons_succ]
              refine wpAnyH_take (i := 19) (oi := ?oiD19) (v := ?vD19) ?hiD19 (by kernel_rfl) (by kernel_rfl) (by kernel_rfl) ?hQD19 (Or.inl ⟨?hwD19, ?hyD19⟩) (by assumption) ?restD19
              case hiD19 => (simp only [List.getElem?_toArray, List.getElem?_cons_succ, List.getElem?_cons_zero]; rfl)
              case hQD19 => exact fun _ _ _ h => h
              case hwD19 => rfl
              case hyD19 => (intro w hSw; (try dsimp only at hSw); go_simp; try with_reducible rfl)
              try simp only [Act.put, List.setIfInBounds_toArray, List.set_cons_zero, List.set_cons_succ]
              refine wpAnyH_take (i := 20) (oi := ?oiD20) (v := ?vD20) ?hiD20 (by kernel_rfl) (by kernel_rfl) (by kernel_rfl) ?hQD20 (Or.inl ⟨?hwD20, ?hyD20⟩) (by assumption) ?restD20
              case hiD20 => (simp only [List.getElem?_toArray, List.getElem?_cons_succ, List.getElem?_cons_zero]; rfl)
              case hQD20 => exact fun _ _ _ h => h
              case hwD20 => rfl
              case hyD20 => (intro w hSw; (try dsimp only at hSw); go_simp; try with_reducible rfl)
              try simp only [Act.put, List.setIfInBounds_toArray, List.set_cons_zero, List.set_cons_succ]
              refine wpAnyH_take (i := 21) (oi := ?oiD21) (v := ?vD21) ?hiD21 (by kernel_rfl) (by kernel_rfl) (by kernel_rfl) ?hQD21 (Or.inl ⟨?hwD21, ?hyD21⟩) (by assumption) ?restD21
              case hiD21 => (simp only [List.getElem?_toArray, List.getElem?_cons_succ, List.getElem?_cons_zero]; rfl)
              case hQD21 => exact fun _ _ _ h => h
              case hwD21 => rfl
              case hyD21 => (intro w hSw; (try dsimp only at hSw); go_simp; try with_reducible rfl)
              try simp only [Act.put, List.setIfInBounds_toArray, List.set_cons_zero, List.set_cons_succ]
              refine wpAnyH_take (i := 22) (oi := ?oiD22) (v := ?vD22) ?hiD22 (by kernel_rfl) (by kernel_rfl) (by kernel_rfl) ?hQD22 (Or.inl ⟨?hwD22, ?hyD22⟩) (by assumption) ?restD22
              case hiD22 => (simp only [List.getElem?_toArray, List.getElem?_cons_succ, List.getElem?_cons_zero]; rfl)
              case hQD22 => exact fun _ _ _ h => h
              case hwD22 => rfl
              case hyD22 => (intro w hSw; (try dsimp only at hSw); go_simp; try with_reducible rfl)
              try simp only [Act.put, List.setIfInBounds_toArray, List.set_cons_zero, List.set_cons_succ]
              refine wpAnyH_take (i := 23) (oi := ?oiD23) (v := ?vD23) ?hiD23 (by kernel_rfl) (by kernel_rfl) (by kernel_rfl) ?hQD23 (Or.inl ⟨?hwD23, ?hyD23⟩) (by assumption) ?restD23
              case hiD23 => (simp only [List.getElem?_toArray, List.getElem?_cons_succ, List.getElem?_cons_zero]; rfl)
              case hQD23 => exact fun _ _ _ h => h
              case hwD23 => rfl
              case hyD23 => (intro w hSw; (try dsimp only at hSw); go_simp; try with_reducible rfl)
              try simp only [Act.put, List.setIfInBounds_toArray, List.set_cons_zero, List.set_cons_succ]
              refine wpAnyH_take (i := 24) (oi := ?oiD24) (v := ?vD24) ?hiD24 (by kernel_rfl) (by kernel_rfl) (by kernel_rfl) ?hQD24 (Or.inl ⟨?hwD24, ?hyD24⟩) (by assumption) ?restD24
              case hiD24 => (simp only [List.getElem?_toArray, List.getElem?_cons_succ, List.getElem?_cons_zero]; rfl)
              case hQD24 => exact fun _ _ _ h => h
              case hwD24 => rfl
              case hyD24 => (intro w hSw; (try dsimp only at hSw); go_simp; try with_reducible rfl)
              try simp only [Act.put, List.setIfInBounds_toArray, List.set_cons_zero, List.set_cons_succ]
              refine wpAnyH_take (i := 25) (oi := ?oiD25) (v := ?vD25) ?hiD25 (by kernel_rfl) (by kernel_rfl) (by kernel_rfl) ?hQD25 (Or.inl ⟨?hwD25, ?hyD25⟩) (by assumption) ?restD25
              case hiD25 => (simp only [List.getElem?_toArray, List.getElem?_cons_succ, List.getElem?_cons_zero]; rfl)
              case hQD25 => exact fun _ _ _ h => h
              case hwD25 => rfl
              case hyD25 => (intro w hSw; (try dsimp only at hSw); go_simp; try with_reducible rfl)
              try simp only [Act.put, List.setIfInBounds_toArray, List.set_cons_zero, List.set_cons_succ]
              refine wpAnyH_take (i := 26) (oi := ?oiD26) (v := ?vD26) ?hiD26 (by kernel_rfl) (by kernel_rfl) (by kernel_rfl) ?hQD26 (Or.inl ⟨?hwD26, ?hyD26⟩) (by assumption) ?restD26
              case hiD26 => (simp only [List.getElem?_toArray, List.getElem?_cons_succ, List.getElem?_cons_zero]; rfl)
              case hQD26 => exact fun _ _ _ h => h
              case hwD26 => rfl
              case hyD26 => (intro w hSw; (try dsimp only at hSw); go_simp; try with_reducible rfl)
              try simp only [Act.put, List.setIfInBounds_toArray, List.set_cons_zero, List.set_cons_succ]
              refine wpAnyH_take (i := 27) (oi := ?oiD27) (v := ?vD27) ?hiD27 (by kernel_rfl) (by kernel_rfl) (by kernel_rfl) ?hQD27 (Or.inl ⟨?hwD27, ?hyD27⟩) (by assumption) ?restD27
              case hiD27 => (simp only [List.getElem?_toArray, List.getElem?_cons_succ, List.getElem?_cons_zero]; rfl)
              case hQD27 => exact fun _ _ _ h => h
              case hwD27 => rfl
              case hyD27 => (intro w hSw; (try dsimp only at hSw); go_simp; try with_reducible rfl)
              try simp only [Act.put, List.setIfInBounds_toArray, List.set_cons_zero, List.set_cons_succ]
              refine wpAnyH_take (i := 28) (oi := ?oiD28) (v := ?vD28) ?hiD28 (by kernel_rfl) (by kernel_rfl) (by kernel_rfl) ?hQD28 (Or.inl ⟨?hwD28, ?hyD28⟩) (by assumption) ?restD28
              case hiD28 => (simp only [List.getElem?_toArray, List.getElem?_cons_succ, List.getElem?_cons_zero]; rfl)
              case hQD28 => exact fun _ _ _ h => h
              case hwD28 => rfl
              case hyD28 => (intro w hSw; (try dsimp only at hSw); go_simp; try with_reducible rfl)
              try simp only [Act.put, List.setIfInBounds_toArray, List.set_cons_zero, List.set_cons_succ]
              refine wpAnyH_take (i := 29) (oi := ?oiD29) (v := ?vD29) ?hiD29 (by kernel_rfl) (by kernel_rfl) (by kernel_rfl) ?hQD29 (Or.inl ⟨?hwD29, ?hyD29⟩) (by assumption) ?restD29
              case hiD29 => (simp only [List.getElem?_toArray, List.getElem?_cons_succ, List.getElem?_cons_zero]; rfl)
              case hQD29 => exact fun _ _ _ h => h
              case hwD29 => rfl
              case hyD29 => (intro w hSw; (try dsimp only at hSw); go_simp; try with_reducible rfl)
              try simp only [Act.put, List.setIfInBounds_toArray, List.set_cons_zero, List.set_cons_succ]
              refine wpAnyH_take (i := 30) (oi := ?oiD30) (v := ?vD30) ?hiD30 (by kernel_rfl) (by kernel_rfl) (by kernel_rfl) ?hQD30 (Or.inl ⟨?hwD30, ?hyD30⟩) (by assumption) ?restD30
              case hiD30 => (simp only [List.getElem?_toArray, List.getElem?_cons_succ, List.getElem?_cons_zero]; rfl)
              case hQD30 => exact fun _ _ _ h => h
              case hwD30 => rfl
              case hyD30 => (intro w hSw; (try dsimp only at hSw); go_simp; try with_reducible rfl)
              try simp only [Act.put, List.setIfInBounds_toArray, List.set_cons_zero, List.set_cons_succ]
              refine wpAnyH_take (i := 31) (oi := ?oiD31) (v := ?vD31) ?hiD31 (by kernel_rfl) (by kernel_rfl) (by kernel_rfl) ?hQD31 (Or.inl ⟨?hwD31, ?hyD31⟩) (by assumption) ?restD31
              case hiD31 => (simp only [List.getElem?_toArray, List.getElem?_cons_succ, List.getElem?_cons_zero]; rfl)
              case hQD31 => exact fun _ _ _ h => h
              case hwD31 => rfl
              case hyD31 => (intro w hSw; (try dsimp only at hSw); go_simp; try with_reducible rfl)
              try simp only [Act.put, List.setIfInBounds_toArray, List.set_cons_zero, List.set_cons_succ]
              refine wpAnyH_take (i := 32) (oi := ?oiD32) (v := ?vD32) ?hiD32 (by kernel_rfl) (by kernel_rfl) (by kernel_rfl) ?hQD32 (Or.inl ⟨?hwD32, ?hyD32⟩) (by assumption) ?restD32
              case hiD32 => (simp only [List.getElem?_toArray, List.getElem?_cons_succ, List.getElem?_cons_zero]; rfl)
              case hQD32 => exact fun _ _ _ h => h
              case hwD32 => rfl
              case hyD32 => (intro w hSw; (try dsimp only at hSw); go_simp; try with_reducible rfl)
              try simp only [Act.put, List.setIfInBounds_toArray, List.set_cons_zero, List.set_cons_succ]
              refine wpAnyH_take (i := 33) (oi := ?oiD33) (v := ?vD33) ?hiD33 (by kernel_rfl) (by kernel_rfl) (by kernel_rfl) ?hQD33 (Or.inl ⟨?hwD33, ?hyD33⟩) (by assumption) ?restD33
              case hiD33 => (simp only [List.getElem?_toArray, List.getElem?_cons_succ, List.getElem?_cons_zero]; rfl)
              case hQD33 => exact fun _ _ _ h => h
              case hwD33 => rfl
              case hyD33 => (intro w hSw; (try dsimp only at hSw); go_simp; try with_reducible rfl)
              try simp only [Act.put, List.setIfInBounds_toArray, List.set_cons_zero, List.set_cons_succ]
              refine wpAnyH_take (i := 34) (oi := ?oiD34) (v := ?vD34) ?hiD34 (by kernel_rfl) (by kernel_rfl) (by kernel_rfl) ?hQD34 (Or.inl ⟨?hwD34, ?hyD34⟩) (by assumption) ?restD34
              case hiD34 => (simp only [List.getElem?_toArray, List.getElem?_cons_succ, List.getElem?_cons_zero]; rfl)
              case hQD34 => exact fun _ _ _ h => h
              case hwD34 => rfl
              case hyD34 => (intro w hSw; (try dsimp only at hSw); go_simp; try with_reducible rfl)
              try simp only [Act.put, List.setIfInBounds_toArray, List.set_cons_zero, List.set_cons_succ]
              refine wpAnyH_ready (rs := [35]) (by kernel_rfl) (by simp) ?_
              refine AllReadyH.cons (o := ?oiD35) ?hiD35 (fun K hK => ?restD35) AllReadyH.nil
              case hiD35 => (simp only [List.getElem?_toArray, List.getElem?_cons_succ, List.getElem?_cons_zero]; rfl)
              go_simp
              refine Calls.mono (SS2 _ (hc1)) ?_
              rintro e Wc2 ⟨rfl, hc2⟩
              go_wp2_with fail
              refine hK.out _ _ (kS _ hc2) (fun hHeld => ?_)
              clear hK K
              try simp only [Act.put, List.setIfInBounds_toArray, List.set_cons_zero, List.set_cons_succ]
              refine wpAnyH_take (i := 36) (oi := ?oiD36) (v := ?vD36) ?hiD36 (by kernel_rfl) (by kernel_rfl) (by kernel_rfl) ?hQD36 (Or.inl ⟨?hwD36, ?hyD36⟩) (by assumption) ?restD36
              case hiD36 => (simp only [List.getElem?_toArray, List.getElem?_cons_succ, List.getElem?_cons_zero]; rfl)
              case hQD36 => exact fun _ _ _ h => h
              case hwD36 => rfl
              case hyD36 => (intro w hSw; (try dsimp only at hSw); go_simp; try with_reducible rfl)
              try simp only [Act.put, List.setIfInBounds_toArray, List.set_cons_zero, List.set_cons_succ]
              refine wpAnyH_take (i := 37) (oi := ?oiD37) (v := ?vD37) ?hiD37 (by kernel_rfl) (by kernel_rfl) (by kernel_rfl) ?hQD37 (Or.inl ⟨?hwD37, ?hyD37⟩) (by assumption) ?restD37
              case hiD37 => (simp only [List.getElem?_toArray, List.getElem?_cons_succ, List.getElem?_cons_zero]; rfl)
              case hQD37 => exact fun _ _ _ h => h
              case hwD37 => rfl
              case hyD37 => (intro w hSw; (try dsimp only at hSw); go_simp; try with_reducible rfl)
              try simp only [Act.put, List.setIfInBounds_toArray, List.set_cons_zero, List.set_cons_succ]
              refine wpAnyH_take (i := 38) (oi := ?oiD38) (v := ?vD38) ?hiD38 (by kernel_rfl) (by kernel_rfl) (by kernel_rfl) ?hQD38 (Or.inl ⟨?hwD38, ?hyD38⟩) (by assumption) ?restD38
              case hiD38 => (simp only [List.getElem?_toArray, List.getElem?_cons_succ, List.getElem?_cons_zero]; rfl)
              case hQD38 => exact fun _ _ _ h => h
              case hwD38 => rfl
              case hyD38 => (intro w hSw; (try dsimp only at hSw); go_simp; try with_reducible rfl)
              try simp only [Act.put, List.setIfInBounds_toArray, List.set_cons_zero, List.set_cons_succ]
              refine wpAnyH_take (i := 39) (oi := ?oiD39) (v := ?vD39) ?hiD39 (by kernel_rfl) (by kernel_rfl) (by kernel_rfl) ?hQD39 (Or.inl ⟨?hwD39, ?hyD39⟩) (by assumption) ?restD39
              case hiD39 => (simp only [List.getElem?_toArray, List.getElem?_cons_succ, List.getElem?_cons_zero]; rfl)
              case hQD39 => exact fun _ _ _ h => h
              case hwD39 => rfl
              case hyD39 => (intro w hSw; (try dsimp only at hSw); go_simp; try with_reducible rfl)
              try simp only [Act.put, List.setIfInBounds_toArray, List.set_cons_zero, List.set_cons_succ]
              refine wpAnyH_done (by kernel_rfl) ?_ _
              simp only [Exit.then]
              apply hK9
              clear hK9
              go_wp2
              go_ret
              exact ⟨rfl, hb.trans (hc2.mono hb.size)⟩
end Go.Proofs.Ytdoehnnhbfmleaa
