/- FlashOrder: the walk. -/
import Derived.Test.YtdoehnnhbfmleaaL2
import Derived.Test.YtdoehnnhbfmleaaL4
import Derived.StillTailTactics
namespace Go.Proofs.Ytdoehnnhbfmleaa
open Go Go.RowKit Go.Shelf

theorem common_zero (data more : List UInt8) : upd data 0 0 (andWith more) = data := upd_zero ..

theorem common_end (data more : List UInt8) : upd data 0 data.length (andWith more) = common data more := by
  apply List.ext_getElem?
  intro j
  rw [upd_getElem?]
  unfold common
  rw [List.getElem?_mapIdx]
  by_cases h : j < data.length
  · have h2 : 0 ≤ j ∧ j < 0 + data.length := by omega
    simp only [if_pos h2, andWith, Nat.sub_zero]
  · rw [List.getElem?_eq_none (by omega)]
    rfl

theorem common_step (data more : List UInt8) (i : Nat) (hi : i < data.length) (hm : i < more.length) :
    (upd data 0 i (andWith more))[i]'(by simpa using hi) = data[i] ∧ (upd data 0 i (andWith more)).set i (data[i] &&& more[i]) = upd data 0 (i + 1) (andWith more) := by
  have h := upd_succ data 0 i (andWith more) (by omega)
  have h2 := upd_at data 0 i (andWith more) (by omega)
  simp only [Nat.zero_add] at h h2
  refine ⟨h2, ?_⟩
  rw [h]
  congr 1
  unfold andWith
  rw [List.getD_eq_getElem?_getD, List.getElem?_eq_getElem hm]
  rfl

theorem common_skip (data more : List UInt8) (i : Nat) (hm : more.length ≤ i) : upd data 0 (i + 1) (andWith more) = upd data 0 i (andWith more) := by
  apply List.ext_getElem?
  intro j
  rw [upd_getElem?, upd_getElem?]
  congr 1
  funext b
  by_cases h1 : 0 ≤ j ∧ j < 0 + i
  · have h2 : 0 ≤ j ∧ j < 0 + (i + 1) := by omega
    simp only [if_pos h1, if_pos h2]
  · by_cases h2 : 0 ≤ j ∧ j < 0 + (i + 1)
    · have h3 : more.getD (j - 0) 255 = 255 := by
        rw [List.getD_eq_getElem?_getD, List.getElem?_eq_none (by omega)]
        rfl
      simp only [if_neg h1, if_pos h2, andWith, h3, and_full]
    · simp only [if_neg h1, if_neg h2]

set_option maxRecDepth 100000 in
set_option maxHeartbeats 4000000 in
theorem forder_any (ok : Ok) (f : Fl) (A : Option Addr) (c : Nat) (at_ : Int) (data : List UInt8) (A2 : Option Addr) (c2 : Nat) (t : Int) (more : List UInt8) (A3 : Option Addr) (c3 : Nat) (w : World) (hf : isSlice kU8 ok w (.slice A f.bytes.length c) f.bytes) (hd : isSlice kU8 ok w (.slice A2 data.length c2) data) (hm : isSlice kU8 ok w (.slice A3 more.length c3) more) :
    Calls Try.prog 7 #[.agg #[.int .i64 f.sector, .slice A f.bytes.length c], .int .i64 at_, .slice A2 data.length c2, .int .i64 t, .slice A3 more.length c3] w fun e w' => e = .returned (.bool true) ∧ Below w.heap.size w w' := by
  have X0 := BoxAt.new w f.sector (.slice A f.bytes.length c)
  have hb : Below w.heap.size w (w.alloc (.cells #[.int .i64 f.sector, .slice A f.bytes.length c] 24)) := (Below.refl _ w).alloc (Nat.le_refl _) _
  replace hf := (hf.agree (Agree.below hb)).mono (ok' := fun _ => True) (fun _ _ => trivial)
  replace hd := (hd.agree (Agree.below hb)).mono (ok' := fun _ => True) (fun _ _ => trivial)
  replace hm := (hm.agree (Agree.below hb)).mono (ok' := fun _ => True) (fun _ _ => trivial)
  by_cases hbig0 : 300 < f.bytes.length
  · obtain ⟨s, bs⟩ := f
    simp only at *
    have v : decide ((300 : Int) < (bs.length : Int)) = true := by simp; omega
    go_enter Try.func7, Try.ntmps7
    go_wp2_with fail
    generalize hW : (w.alloc (.cells #[.int .i64 s, .slice A bs.length c] 24)) = W0 at *
    clear hW
    refine (head_any W0).mono ?_
    rintro e W1 ⟨rfl, hn⟩
    replace X0 := X0.below hn
    replace hf := hf.agree (Agree.below hn)
    replace hd := hd.agree (Agree.below hn)
    replace hm := hm.agree (Agree.below hn)
    replace hb := hb.trans (hn.mono hb.size)
    clear hn
    have X0a := X0.at0
    have X0b := X0.at1
    have X0c := X0.lt
    go_wp2_with fail
    clear X0a X0b X0c
    go_ret
    exact ⟨rfl, hb⟩
  by_cases hbig1 : 300 < data.length
  · obtain ⟨s, bs⟩ := f
    simp only at *
    have u0 : decide ((300 : Int) < (bs.length : Int)) = false := by simp; omega
    have v : decide ((300 : Int) < (data.length : Int)) = true := by simp; omega
    go_enter Try.func7, Try.ntmps7
    go_wp2_with fail
    generalize hW : (w.alloc (.cells #[.int .i64 s, .slice A bs.length c] 24)) = W0 at *
    clear hW
    refine (head_any W0).mono ?_
    rintro e W1 ⟨rfl, hn⟩
    replace X0 := X0.below hn
    replace hf := hf.agree (Agree.below hn)
    replace hd := hd.agree (Agree.below hn)
    replace hm := hm.agree (Agree.below hn)
    replace hb := hb.trans (hn.mono hb.size)
    clear hn
    have X0a := X0.at0
    have X0b := X0.at1
    have X0c := X0.lt
    go_wp2_with fail
    clear X0a X0b X0c
    go_ret
    exact ⟨rfl, hb⟩
  by_cases hbig2 : 300 < more.length
  · obtain ⟨s, bs⟩ := f
    simp only at *
    have u0 : decide ((300 : Int) < (bs.length : Int)) = false := by simp; omega
    have u1 : decide ((300 : Int) < (data.length : Int)) = false := by simp; omega
    have v : decide ((300 : Int) < (more.length : Int)) = true := by simp; omega
    go_enter Try.func7, Try.ntmps7
    go_wp2_with fail
    generalize hW : (w.alloc (.cells #[.int .i64 s, .slice A bs.length c] 24)) = W0 at *
    clear hW
    refine (head_any W0).mono ?_
    rintro e W1 ⟨rfl, hn⟩
    replace X0 := X0.below hn
    replace hf := hf.agree (Agree.below hn)
    replace hd := hd.agree (Agree.below hn)
    replace hm := hm.agree (Agree.below hn)
    replace hb := hb.trans (hn.mono hb.size)
    clear hn
    have X0a := X0.at0
    have X0b := X0.at1
    have X0c := X0.lt
    go_wp2_with fail
    clear X0a X0b X0c
    go_ret
    exact ⟨rfl, hb⟩
  have D1 := fun W h1 h2 => done_any (fun _ => True) f A c at_ data A2 c2 W h1 h2 (by omega)
  have D2 := fun W h1 h2 => done_any (fun _ => True) f A c t more A3 c3 W h1 h2 (by omega)
  generalize hra : doneF f at_ data = ra at D1
  generalize hrb : doneF f t more = rb at D2
  obtain ⟨xa, ba⟩ := ra
  obtain ⟨xb, bb⟩ := rb
  simp only at D1 D2
  have hla : xa.bytes.length ≤ 1000000 := by have := done_len f at_ data; rw [hra] at this; exact this
  have hlb : xb.bytes.length ≤ 1000000 := by have := done_len f t more; rw [hrb] at this; exact this
  have hO : ba = true → bb = true → ∃ x, doneF xa t more = (x, true) ∧ doneF xb at_ data = (x, true) := fun h1 h2 => by subst h1; subst h2; exact order_done hra hrb
  have hC : ba = true → more.length ≤ data.length → ∃ x, doneF xa at_ more = (x, true) ∧ doneF f at_ (common data more) = (x, true) := fun h1 h2 => by subst h1; exact order_common hra h2
  clear hra hrb
  have DC := fun W B cc h1 h2 => done_any (fun _ => True) f A c at_ (common data more) B cc W h1 h2 (by rw [common_length]; omega)
  have hCl : ∀ x, doneF f at_ (common data more) = (x, true) → x.bytes.length ≤ 1000000 := fun x hx => by have := done_len f at_ (common data more); rw [hx] at this; exact this
  have hCo : ∀ x, doneF xa t more = (x, true) → x.bytes.length ≤ 1000000 := fun x hx => by have := done_len xa t more; rw [hx] at this; exact this
  simp only [common_length] at DC
  obtain ⟨s, bs⟩ := f
  simp only at *
  have u0 : decide ((300 : Int) < (bs.length : Int)) = false := by simp; omega
  have u1 : decide ((300 : Int) < (data.length : Int)) = false := by simp; omega
  have u2 : decide ((300 : Int) < (more.length : Int)) = false := by simp; omega
  go_enter Try.func7, Try.ntmps7
  go_wp2_with fail
  generalize hW : (w.alloc (.cells #[.int .i64 s, .slice A bs.length c] 24)) = W0 at *
  clear hW
  refine (head_any W0).mono ?_
  rintro e W1 ⟨rfl, hn⟩
  replace X0 := X0.below hn
  replace hf := hf.agree (Agree.below hn)
  replace hd := hd.agree (Agree.below hn)
  replace hm := hm.agree (Agree.below hn)
  replace hb := hb.trans (hn.mono hb.size)
  clear hn
  have X0a := X0.at0
  have X0b := X0.at1
  have X0c := X0.lt
  go_wp2_with fail
  clear X0a X0b X0c
  refine (D1 W1 hf hd).mono ?_
  rintro e W2 ⟨B1, d1, rfl, hs1, hn⟩
  clear D1
  replace X0 := X0.below hn
  replace hf := hf.agree (Agree.below hn)
  replace hd := hd.agree (Agree.below hn)
  replace hm := hm.agree (Agree.below hn)
  replace hb := hb.trans (hn.mono hb.size)
  clear hn
  have X0a := X0.at0
  have X0b := X0.at1
  have X0c := X0.lt
  go_wp2_with fail
  clear X0a X0b X0c
  have hn : Below W2.heap.size W2 (W2.alloc (.cells #[.int .i64 xa.sector, .slice B1 xa.bytes.length d1] 24)) := (Below.refl _ W2).alloc (Nat.le_refl _) _
  have X1 := BoxAt.new W2 xa.sector (.slice B1 xa.bytes.length d1)
  generalize hW : (W2.alloc (.cells #[.int .i64 xa.sector, .slice B1 xa.bytes.length d1] 24)) = W3 at *
  clear hW
  replace X0 := X0.below hn
  replace hf := hf.agree (Agree.below hn)
  replace hd := hd.agree (Agree.below hn)
  replace hm := hm.agree (Agree.below hn)
  replace hs1 := hs1.agree (Agree.below hn)
  replace hb := hb.trans (hn.mono hb.size)
  clear hn
  refine (D2 W3 hf hm).mono ?_
  rintro e W4 ⟨B2, d2, rfl, hs2, hn⟩
  clear D2
  replace X0 := X0.below hn
  replace X1 := X1.below hn
  replace hf := hf.agree (Agree.below hn)
  replace hd := hd.agree (Agree.below hn)
  replace hm := hm.agree (Agree.below hn)
  replace hs1 := hs1.agree (Agree.below hn)
  replace hb := hb.trans (hn.mono hb.size)
  clear hn
  cases ba with
  | false =>
    have X0a := X0.at0
    have X0b := X0.at1
    have X0c := X0.lt
    have X1a := X1.at0
    have X1b := X1.at1
    have X1c := X1.lt
    go_wp2_with fail
    clear X0a X0b X0c
    clear X1a X1b X1c
    have hn : Below W4.heap.size W4 (W4.alloc (.cells #[.int .i64 xb.sector, .slice B2 xb.bytes.length d2] 24)) := (Below.refl _ W4).alloc (Nat.le_refl _) _
    have X2 := BoxAt.new W4 xb.sector (.slice B2 xb.bytes.length d2)
    generalize hW : (W4.alloc (.cells #[.int .i64 xb.sector, .slice B2 xb.bytes.length d2] 24)) = W5 at *
    clear hW
    replace X0 := X0.below hn
    replace X1 := X1.below hn
    replace hf := hf.agree (Agree.below hn)
    replace hd := hd.agree (Agree.below hn)
    replace hm := hm.agree (Agree.below hn)
    replace hs1 := hs1.agree (Agree.below hn)
    replace hs2 := hs2.agree (Agree.below hn)
    replace hb := hb.trans (hn.mono hb.size)
    clear hn
    go_ret
    exact ⟨rfl, hb⟩
  | true =>
    cases bb with
    | false =>
      have X0a := X0.at0
      have X0b := X0.at1
      have X0c := X0.lt
      have X1a := X1.at0
      have X1b := X1.at1
      have X1c := X1.lt
      go_wp2_with fail
      clear X0a X0b X0c
      clear X1a X1b X1c
      have hn : Below W4.heap.size W4 (W4.alloc (.cells #[.int .i64 xb.sector, .slice B2 xb.bytes.length d2] 24)) := (Below.refl _ W4).alloc (Nat.le_refl _) _
      have X2 := BoxAt.new W4 xb.sector (.slice B2 xb.bytes.length d2)
      generalize hW : (W4.alloc (.cells #[.int .i64 xb.sector, .slice B2 xb.bytes.length d2] 24)) = W5 at *
      clear hW
      replace X0 := X0.below hn
      replace X1 := X1.below hn
      replace hf := hf.agree (Agree.below hn)
      replace hd := hd.agree (Agree.below hn)
      replace hm := hm.agree (Agree.below hn)
      replace hs1 := hs1.agree (Agree.below hn)
      replace hs2 := hs2.agree (Agree.below hn)
      replace hb := hb.trans (hn.mono hb.size)
      clear hn
      go_ret
      exact ⟨rfl, hb⟩
    | true =>
      obtain ⟨xc, hc1, hc2⟩ := hO rfl rfl
      have hlc := hCo xc hc1
      clear hO hCo
      have X0a := X0.at0
      have X0b := X0.at1
      have X0c := X0.lt
      have X1a := X1.at0
      have X1b := X1.at1
      have X1c := X1.lt
      go_wp2_with fail
      clear X0a X0b X0c
      clear X1a X1b X1c
      have hn : Below W4.heap.size W4 (W4.alloc (.cells #[.int .i64 xb.sector, .slice B2 xb.bytes.length d2] 24)) := (Below.refl _ W4).alloc (Nat.le_refl _) _
      have X2 := BoxAt.new W4 xb.sector (.slice B2 xb.bytes.length d2)
      generalize hW : (W4.alloc (.cells #[.int .i64 xb.sector, .slice B2 xb.bytes.length d2] 24)) = W6 at *
      clear hW
      replace X0 := X0.below hn
      replace X1 := X1.below hn
      replace hf := hf.agree (Agree.below hn)
      replace hd := hd.agree (Agree.below hn)
      replace hm := hm.agree (Agree.below hn)
      replace hs1 := hs1.agree (Agree.below hn)
      replace hs2 := hs2.agree (Agree.below hn)
      replace hb := hb.trans (hn.mono hb.size)
      clear hn
      have D3 := done_any (fun _ => True) xa B1 d1 t more A3 c3 W6 hs1 hm (by omega)
      rw [hc1] at D3
      simp only at D3
      refine (D3).mono ?_
      rintro e W7 ⟨B3, d3, rfl, hs3, hn⟩
      clear D3 hc1
      replace X0 := X0.below hn
      replace X1 := X1.below hn
      replace X2 := X2.below hn
      replace hf := hf.agree (Agree.below hn)
      replace hd := hd.agree (Agree.below hn)
      replace hm := hm.agree (Agree.below hn)
      replace hs1 := hs1.agree (Agree.below hn)
      replace hs2 := hs2.agree (Agree.below hn)
      replace hb := hb.trans (hn.mono hb.size)
      clear hn
      have X0a := X0.at0
      have X0b := X0.at1
      have X0c := X0.lt
      have X1a := X1.at0
      have X1b := X1.at1
      have X1c := X1.lt
      have X2a := X2.at0
      have X2b := X2.at1
      have X2c := X2.lt
      go_wp2_with fail
      clear X0a X0b X0c
      clear X1a X1b X1c
      clear X2a X2b X2c
      have hn : Below W7.heap.size W7 (W7.alloc (.cells #[.int .i64 xc.sector, .slice B3 xc.bytes.length d3] 24)) := (Below.refl _ W7).alloc (Nat.le_refl _) _
      have X3 := BoxAt.new W7 xc.sector (.slice B3 xc.bytes.length d3)
      generalize hW : (W7.alloc (.cells #[.int .i64 xc.sector, .slice B3 xc.bytes.length d3] 24)) = W8 at *
      clear hW
      replace X0 := X0.below hn
      replace X1 := X1.below hn
      replace X2 := X2.below hn
      replace hf := hf.agree (Agree.below hn)
      replace hd := hd.agree (Agree.below hn)
      replace hm := hm.agree (Agree.below hn)
      replace hs1 := hs1.agree (Agree.below hn)
      replace hs2 := hs2.agree (Agree.below hn)
      replace hs3 := hs3.agree (Agree.below hn)
      replace hb := hb.trans (hn.mono hb.size)
      clear hn
      have D4 := done_any (fun _ => True) xb B2 d2 at_ data A2 c2 W8 hs2 hd (by omega)
      rw [hc2] at D4
      simp only at D4
      refine (D4).mono ?_
      rintro e W9 ⟨B4, d4, rfl, hs4, hn⟩
      clear D4 hc2
      replace X0 := X0.below hn
      replace X1 := X1.below hn
      replace X2 := X2.below hn
      replace X3 := X3.below hn
      replace hf := hf.agree (Agree.below hn)
      replace hd := hd.agree (Agree.below hn)
      replace hm := hm.agree (Agree.below hn)
      replace hs1 := hs1.agree (Agree.below hn)
      replace hs2 := hs2.agree (Agree.below hn)
      replace hs3 := hs3.agree (Agree.below hn)
      replace hb := hb.trans (hn.mono hb.size)
      clear hn
      have X0a := X0.at0
      have X0b := X0.at1
      have X0c := X0.lt
      have X1a := X1.at0
      have X1b := X1.at1
      have X1c := X1.lt
      have X2a := X2.at0
      have X2b := X2.at1
      have X2c := X2.lt
      have X3a := X3.at0
      have X3b := X3.at1
      have X3c := X3.lt
      go_wp2_with fail
      clear X0a X0b X0c
      clear X1a X1b X1c
      clear X2a X2b X2c
      clear X3a X3b X3c
      have hn : Below W9.heap.size W9 (W9.alloc (.cells #[.int .i64 xc.sector, .slice B4 xc.bytes.length d4] 24)) := (Below.refl _ W9).alloc (Nat.le_refl _) _
      have X4 := BoxAt.new W9 xc.sector (.slice B4 xc.bytes.length d4)
      generalize hW : (W9.alloc (.cells #[.int .i64 xc.sector, .slice B4 xc.bytes.length d4] 24)) = W10 at *
      clear hW
      replace X0 := X0.below hn
      replace X1 := X1.below hn
      replace X2 := X2.below hn
      replace X3 := X3.below hn
      replace hf := hf.agree (Agree.below hn)
      replace hd := hd.agree (Agree.below hn)
      replace hm := hm.agree (Agree.below hn)
      replace hs1 := hs1.agree (Agree.below hn)
      replace hs2 := hs2.agree (Agree.below hn)
      replace hs3 := hs3.agree (Agree.below hn)
      replace hs4 := hs4.agree (Agree.below hn)
      replace hb := hb.trans (hn.mono hb.size)
      clear hn
      have SS := same_any (fun _ => True) xc xc B3 B4 d3 d4 W10 hs3 hs4 hlc
      rw [show decide (xc = xc) = true from by simp] at SS
      refine (SS).mono ?_
      rintro e W11 ⟨rfl, hn⟩
      clear SS
      replace X0 := X0.below hn
      replace X1 := X1.below hn
      replace X2 := X2.below hn
      replace X3 := X3.below hn
      replace X4 := X4.below hn
      replace hf := hf.agree (Agree.below hn)
      replace hd := hd.agree (Agree.below hn)
      replace hm := hm.agree (Agree.below hn)
      replace hs1 := hs1.agree (Agree.below hn)
      replace hs2 := hs2.agree (Agree.below hn)
      replace hs3 := hs3.agree (Agree.below hn)
      replace hs4 := hs4.agree (Agree.below hn)
      replace hb := hb.trans (hn.mono hb.size)
      clear hn
      have hown : isOwn kU8 5 (fun k => k < W11.heap.size) W11.heap.size (W11.alloc (.cells #[] 5)) (.slice (some ⟨W11.heap.size, 0, none⟩) 0 0) [] := own_empty _ (Nat.le_refl _) (World.alloc_heap_new W11 _)
      have hok : isSlice kU8 (fun k => k < W11.heap.size) (W11.alloc (.cells #[] 5)) (.slice A2 data.length c2) data := (hd.bounded (fun k _ hk => hk)).agree (Agree.alloc _ _ _)
      have e1 : ∀ k, (Value.slice (some ⟨W11.heap.size, 0, none⟩) 0 0).ownBlock = some k → ¬ k < W11.heap.size := by intro k hk; simp [Value.ownBlock] at hk; omega
      have e2 : ([] : List UInt8).length + data.length ≤ maxLen := by simp only [List.length_nil]; unfold maxLen; omega
      have e3 : (([] : List UInt8).length + data.length) * 1 ≤ 140737488355328 := by simp only [List.length_nil]; omega
      have e4 : W11.heap.size ≤ (W11.alloc (.cells #[] 5)).heap.size := by simp
      have X0a := X0.at0
      have X0b := X0.at1
      have X0c := X0.lt
      have X1a := X1.at0
      have X1b := X1.at1
      have X1c := X1.lt
      have X2a := X2.at0
      have X2b := X2.at1
      have X2c := X2.lt
      have X3a := X3.at0
      have X3b := X3.at1
      have X3c := X3.lt
      have X4a := X4.at0
      have X4b := X4.at1
      have X4c := X4.lt
      go_wp2_with (at_builtin; refine wpList_append_K rfl _ _ rfl elem22 _ W11.heap.size (.slice (some ⟨W11.heap.size, 0, none⟩) 0 0) (.slice A2 data.length c2) [] data rfl rfl hown hok e1 e2 e3 e4 ?_; intro E c5 Wa ho hg hbo)
      clear X0a X0b X0c
      clear X1a X1b X1c
      clear X2a X2b X2c
      clear X3a X3b X3c
      clear X4a X4b X4c
      simp only [List.nil_append] at ho
      have hn : Below W11.heap.size W11 Wa := ((Below.refl _ _).alloc (Nat.le_refl _) _).grown hg (by simp) (fun k hk => by simp [Value.ownBlock] at hk; omega)
      clear hg hbo hown hok e1 e2 e3 e4
      go_loopw [94] (fun iv wr => ∃ (i : Nat), i ≤ data.length ∧ iv = .int .i64 i ∧ isOwn kU8 5 (fun k => k < W11.heap.size) W11.heap.size wr (.slice E data.length c5) (upd data 0 i (andWith more)) ∧ Below W11.heap.size W11 wr) (fun iv _ => data.length - (intOf iv).toNat)
      case atStart => exact ⟨0, Nat.zero_le _, rfl, by rw [common_zero]; exact ho, hn⟩
      case round =>
        obtain ⟨i, hi, rfl, hor, hbw⟩ := hrel
        clear ho hn
        by_cases hlt : i < data.length
        · by_cases him : i < more.length
          · obtain ⟨hc1, hc2⟩ := common_step data more i hlt him
            obtain ⟨hnl, g1, cur, rfl, hg1, hgh, hcur, y1, y2, y3⟩ := own_store hor i (by simpa using hlt)
            rw [hc1] at y1
            obtain ⟨g2, o2, rfl, _, hg2, p2⟩ := bytes_open (hm.agree (Agree.below hbw)) (by omega)
            have x2 := p2 i him
            have y4 : isOwn kU8 5 (fun k => k < W11.heap.size) W11.heap.size (wr.drew.setCell ⟨g1, i, none⟩ (.int .u8 (data[i] &&& more[i]).toNat)) (.slice (some ⟨g1, 0, none⟩) data.length c5) (upd data 0 (i + 1) (andWith more)) := by
              rw [← hc2]
              exact (y3 (data[i] &&& more[i])).agree ⟨Nat.le_refl _, fun _ _ _ => rfl⟩ (fun _ _ => rfl)
            have hbits : bits .and .u8 ((data[i]).toNat : Int) ((more[i]).toNat : Int) = ((data[i] &&& more[i]).toNat : Int) := by
              rw [u8_and_nat _ _ (UInt8.toNat_lt _) (UInt8.toNat_lt _), UInt8.toNat_and]
            have hb2 : Below W11.heap.size W11 (wr.drew.setCell ⟨g1, i, none⟩ (.int .u8 (data[i] &&& more[i]).toNat)) := hbw.drew.setCell hg1 _
            have r1 : (0 : Int) ≤ (i : Int) := by omega
            have r2 : (i : Int) < (data.length : Int) := by omega
            have r3 : (i : Int) < (more.length : Int) := by omega
            have m3 : data.length - ((i : Int) + 1).toNat < data.length - (i : Int).toNat := by omega
            have m4 : ((i + 1 : Nat) : Int) = (i : Int) + 1 := by omega
            clear hnl p2 y3 hc1 hc2 hor hgh hcur hC hCl DC hf hd hs1 hs2 hs3 hs4
            go_wp2_with fail
            go_still_tail 10, (by kernel_rfl)
            go_wp2
            rw [UInt8.toNat_and] at y4 hb2
            exact ⟨⟨i + 1, hlt, by rw [m4], y4, hb2⟩, m3⟩
          · have r3 : ¬ (i : Int) < (more.length : Int) := by omega
            go_wp2
            refine ⟨⟨i + 1, by omega, by rw [show ((i + 1 : Nat) : Int) = (i : Int) + 1 by omega], by rw [common_skip _ _ _ (by omega)]; exact hor, hbw⟩, ?_⟩
            simp [intOf]; omega
        · have hie : i = data.length := by omega
          subst hie
          rw [common_end] at hor
          have hs5 : isSlice kU8 (fun _ => True) wr (.slice E data.length c5) (common data more) := hor.slice_flat flat_u8 (fun _ _ => trivial)
          clear hor
          replace X0 := X0.below hbw
          replace X1 := X1.below hbw
          replace X2 := X2.below hbw
          replace X3 := X3.below hbw
          replace X4 := X4.below hbw
          replace hf := hf.agree (Agree.below hbw)
          replace hd := hd.agree (Agree.below hbw)
          replace hm := hm.agree (Agree.below hbw)
          replace hs1 := hs1.agree (Agree.below hbw)
          replace hs2 := hs2.agree (Agree.below hbw)
          replace hs3 := hs3.agree (Agree.below hbw)
          replace hs4 := hs4.agree (Agree.below hbw)
          replace hb := hb.trans (hbw.mono hb.size)
          clear hbw
          by_cases hml : data.length < more.length
          · have u9 : (data.length : Int) < (more.length : Int) := by omega
            have X0a := X0.at0
            have X0b := X0.at1
            have X0c := X0.lt
            have X1a := X1.at0
            have X1b := X1.at1
            have X1c := X1.lt
            have X2a := X2.at0
            have X2b := X2.at1
            have X2c := X2.lt
            have X3a := X3.at0
            have X3b := X3.at1
            have X3c := X3.lt
            have X4a := X4.at0
            have X4b := X4.at1
            have X4c := X4.lt
            go_wp2_with fail
            clear X0a X0b X0c
            clear X1a X1b X1c
            clear X2a X2b X2c
            clear X3a X3b X3c
            clear X4a X4b X4c
            go_ret
            exact ⟨rfl, hb⟩
          · have u9 : ¬ (data.length : Int) < (more.length : Int) := by omega
            obtain ⟨xd, hd1, hd2⟩ := hC (by first | rfl | trivial) (by omega)
            have hld := hCl xd hd2
            clear hC hCl
            have X0a := X0.at0
            have X0b := X0.at1
            have X0c := X0.lt
            have X1a := X1.at0
            have X1b := X1.at1
            have X1c := X1.lt
            have X2a := X2.at0
            have X2b := X2.at1
            have X2c := X2.lt
            have X3a := X3.at0
            have X3b := X3.at1
            have X3c := X3.lt
            have X4a := X4.at0
            have X4b := X4.at1
            have X4c := X4.lt
            go_wp2_with fail
            clear X0a X0b X0c
            clear X1a X1b X1c
            clear X2a X2b X2c
            clear X3a X3b X3c
            clear X4a X4b X4c
            have D5 := done_any (fun _ => True) xa B1 d1 at_ more A3 c3 wr hs1 hm (by omega)
            rw [hd1] at D5
            simp only at D5
            refine (D5).mono ?_
            rintro e W12 ⟨B6, d6, rfl, hs6, hn⟩
            clear D5 hd1
            replace X0 := X0.below hn
            replace X1 := X1.below hn
            replace X2 := X2.below hn
            replace X3 := X3.below hn
            replace X4 := X4.below hn
            replace hf := hf.agree (Agree.below hn)
            replace hd := hd.agree (Agree.below hn)
            replace hm := hm.agree (Agree.below hn)
            replace hs1 := hs1.agree (Agree.below hn)
            replace hs2 := hs2.agree (Agree.below hn)
            replace hs3 := hs3.agree (Agree.below hn)
            replace hs4 := hs4.agree (Agree.below hn)
            replace hs5 := hs5.agree (Agree.below hn)
            replace hb := hb.trans (hn.mono hb.size)
            clear hn
            have X0a := X0.at0
            have X0b := X0.at1
            have X0c := X0.lt
            have X1a := X1.at0
            have X1b := X1.at1
            have X1c := X1.lt
            have X2a := X2.at0
            have X2b := X2.at1
            have X2c := X2.lt
            have X3a := X3.at0
            have X3b := X3.at1
            have X3c := X3.lt
            have X4a := X4.at0
            have X4b := X4.at1
            have X4c := X4.lt
            go_wp2_with fail
            clear X0a X0b X0c
            clear X1a X1b X1c
            clear X2a X2b X2c
            clear X3a X3b X3c
            clear X4a X4b X4c
            have hn : Below W12.heap.size W12 (W12.alloc (.cells #[.int .i64 xd.sector, .slice B6 xd.bytes.length d6] 24)) := (Below.refl _ W12).alloc (Nat.le_refl _) _
            have X5 := BoxAt.new W12 xd.sector (.slice B6 xd.bytes.length d6)
            generalize hW : (W12.alloc (.cells #[.int .i64 xd.sector, .slice B6 xd.bytes.length d6] 24)) = W13 at *
            clear hW
            replace X0 := X0.below hn
            replace X1 := X1.below hn
            replace X2 := X2.below hn
            replace X3 := X3.below hn
            replace X4 := X4.below hn
            replace hf := hf.agree (Agree.below hn)
            replace hd := hd.agree (Agree.below hn)
            replace hm := hm.agree (Agree.below hn)
            replace hs1 := hs1.agree (Agree.below hn)
            replace hs2 := hs2.agree (Agree.below hn)
            replace hs3 := hs3.agree (Agree.below hn)
            replace hs4 := hs4.agree (Agree.below hn)
            replace hs5 := hs5.agree (Agree.below hn)
            replace hs6 := hs6.agree (Agree.below hn)
            replace hb := hb.trans (hn.mono hb.size)
            clear hn
            have D6 := DC W13 E c5 hf hs5
            rw [hd2] at D6
            simp only at D6
            refine (D6).mono ?_
            rintro e W14 ⟨B7, d7, rfl, hs7, hn⟩
            clear D6 hd2
            replace X0 := X0.below hn
            replace X1 := X1.below hn
            replace X2 := X2.below hn
            replace X3 := X3.below hn
            replace X4 := X4.below hn
            replace X5 := X5.below hn
            replace hf := hf.agree (Agree.below hn)
            replace hd := hd.agree (Agree.below hn)
            replace hm := hm.agree (Agree.below hn)
            replace hs1 := hs1.agree (Agree.below hn)
            replace hs2 := hs2.agree (Agree.below hn)
            replace hs3 := hs3.agree (Agree.below hn)
            replace hs4 := hs4.agree (Agree.below hn)
            replace hs5 := hs5.agree (Agree.below hn)
            replace hs6 := hs6.agree (Agree.below hn)
            replace hb := hb.trans (hn.mono hb.size)
            clear hn
            have X0a := X0.at0
            have X0b := X0.at1
            have X0c := X0.lt
            have X1a := X1.at0
            have X1b := X1.at1
            have X1c := X1.lt
            have X2a := X2.at0
            have X2b := X2.at1
            have X2c := X2.lt
            have X3a := X3.at0
            have X3b := X3.at1
            have X3c := X3.lt
            have X4a := X4.at0
            have X4b := X4.at1
            have X4c := X4.lt
            have X5a := X5.at0
            have X5b := X5.at1
            have X5c := X5.lt
            go_wp2_with fail
            clear X0a X0b X0c
            clear X1a X1b X1c
            clear X2a X2b X2c
            clear X3a X3b X3c
            clear X4a X4b X4c
            clear X5a X5b X5c
            have hn : Below W14.heap.size W14 (W14.alloc (.cells #[.int .i64 xd.sector, .slice B7 xd.bytes.length d7] 24)) := (Below.refl _ W14).alloc (Nat.le_refl _) _
            have X6 := BoxAt.new W14 xd.sector (.slice B7 xd.bytes.length d7)
            generalize hW : (W14.alloc (.cells #[.int .i64 xd.sector, .slice B7 xd.bytes.length d7] 24)) = W15 at *
            clear hW
            replace X0 := X0.below hn
            replace X1 := X1.below hn
            replace X2 := X2.below hn
            replace X3 := X3.below hn
            replace X4 := X4.below hn
            replace X5 := X5.below hn
            replace hf := hf.agree (Agree.below hn)
            replace hd := hd.agree (Agree.below hn)
            replace hm := hm.agree (Agree.below hn)
            replace hs1 := hs1.agree (Agree.below hn)
            replace hs2 := hs2.agree (Agree.below hn)
            replace hs3 := hs3.agree (Agree.below hn)
            replace hs4 := hs4.agree (Agree.below hn)
            replace hs5 := hs5.agree (Agree.below hn)
            replace hs6 := hs6.agree (Agree.below hn)
            replace hs7 := hs7.agree (Agree.below hn)
            replace hb := hb.trans (hn.mono hb.size)
            clear hn
            have SS := same_any (fun _ => True) xd xd B6 B7 d6 d7 W15 hs6 hs7 hld
            rw [show decide (xd = xd) = true from by simp] at SS
            refine (SS).mono ?_
            rintro e W16 ⟨rfl, hn⟩
            clear SS
            replace X0 := X0.below hn
            replace X1 := X1.below hn
            replace X2 := X2.below hn
            replace X3 := X3.below hn
            replace X4 := X4.below hn
            replace X5 := X5.below hn
            replace X6 := X6.below hn
            replace hf := hf.agree (Agree.below hn)
            replace hd := hd.agree (Agree.below hn)
            replace hm := hm.agree (Agree.below hn)
            replace hs1 := hs1.agree (Agree.below hn)
            replace hs2 := hs2.agree (Agree.below hn)
            replace hs3 := hs3.agree (Agree.below hn)
            replace hs4 := hs4.agree (Agree.below hn)
            replace hs5 := hs5.agree (Agree.below hn)
            replace hs6 := hs6.agree (Agree.below hn)
            replace hs7 := hs7.agree (Agree.below hn)
            replace hb := hb.trans (hn.mono hb.size)
            clear hn
            have X0a := X0.at0
            have X0b := X0.at1
            have X0c := X0.lt
            have X1a := X1.at0
            have X1b := X1.at1
            have X1c := X1.lt
            have X2a := X2.at0
            have X2b := X2.at1
            have X2c := X2.lt
            have X3a := X3.at0
            have X3b := X3.at1
            have X3c := X3.lt
            have X4a := X4.at0
            have X4b := X4.at1
            have X4c := X4.lt
            have X5a := X5.at0
            have X5b := X5.at1
            have X5c := X5.lt
            have X6a := X6.at0
            have X6b := X6.at1
            have X6c := X6.lt
            go_wp2_with fail
            clear X0a X0b X0c
            clear X1a X1b X1c
            clear X2a X2b X2c
            clear X3a X3b X3c
            clear X4a X4b X4c
            clear X5a X5b X5c
            clear X6a X6b X6c
            go_ret
            exact ⟨rfl, hb⟩
end Go.Proofs.Ytdoehnnhbfmleaa
