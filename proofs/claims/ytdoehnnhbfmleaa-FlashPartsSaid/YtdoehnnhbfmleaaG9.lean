/- FlashParts: the walk. -/
import Derived.Test.YtdoehnnhbfmleaaL2
import Derived.Test.YtdoehnnhbfmleaaL6
import Derived.Deep.RegionHeld3
namespace Go.Proofs.Ytdoehnnhbfmleaa
open Go Go.RowKit Go.Shelf

theorem own_none {W : World} {base g : Nat} (ok : Ok) (hb : base ≤ g) (hg : W.heap[g]? = some (.cells #[] 24 (0, 0))) : isOwn kFlash 24 ok base W (.slice (some ⟨g, 0, none⟩) 0 0) [] :=
  ⟨[], ⟨rfl, .inr ⟨g, 0, #[], rfl, hb, hg, Nat.le_refl _, by unfold maxLen; omega, by simp, rfl⟩⟩, Reads.nil _ _ _⟩

theorem oper_append_K {P : Program} {w : World} {o : Oper} {a : Act} {Q : Exit → Act → World → Prop} {α : Type} {d : Kind α} {t e : TypeId} {z : Value} {bytes : Nat} {K : Act → World → Prop} (s x : Operand) (ho : o.op = .call { callee := .builtin .append, args := #[s, x], argTypes := #[t, t] })
    (E : ElemOf P t e z d.sz bytes) (ok : Ok) (base : Nat) (v xv : Value) (xs ys : List α) (hs : a.eval s = v) (hx : a.eval x = xv)
    (hown : isOwn d e ok base w v xs) (hy : isSlice d ok w xv ys) (hne : ∀ k, v.ownBlock = some k → ¬ ok k)
    (b1 : xs.length + ys.length ≤ maxLen) (b2 : (xs.length + ys.length) * bytes ≤ 140737488355328) (hbase : base ≤ w.heap.size)
    (h : ∀ A c w', isOwn d e ok base w' (.slice A (xs ++ ys).length c) (xs ++ ys) → w.grownBy w' v.ownBlock → K (a.put o.dst (.slice A (xs ++ ys).length c)) w') : Oper.wp P o a w K Q := by
  obtain ⟨A, c, w', hr, h1, h2, _⟩ := run_append_K (P := P) (ty := o.type) w E hown hy hne b1 b2 hbase
  exact wp_exec (exec_append ho hs hx rfl hr) (h A c w' h1 h2)

/-- A list in two parts. -/
def Parts (l l1 l2 : List Fl) : Prop := l = l1 ++ l2.drop 1

set_option maxRecDepth 100000 in
set_option maxHeartbeats 4000000 in
theorem fparts_any (ok : Ok) (f : Fl) (A : Option Addr) (c : Nat) (at_ : Int) (data : List UInt8) (A2 : Option Addr) (c2 : Nat) (cut : Int) (w : World) (hf : isSlice kU8 ok w (.slice A f.bytes.length c) f.bytes) (hd : isSlice kU8 ok w (.slice A2 data.length c2) data) (hst : 0 ≤ cut ∧ cut ≤ 65535) :
    Calls Try.prog 9 #[.agg #[.int .i64 f.sector, .slice A f.bytes.length c], .int .i64 at_, .slice A2 data.length c2, .int .u16 cut] w fun e w' => e = .returned (.bool true) ∧ Below w.heap.size w w' := by
  have X0 := BoxAt.new w f.sector (.slice A f.bytes.length c)
  have hb : Below w.heap.size w (w.alloc (.cells #[.int .i64 f.sector, .slice A f.bytes.length c] 24)) := (Below.refl _ w).alloc (Nat.le_refl _) _
  replace hf := (hf.agree (Agree.below hb)).mono (ok' := fun _ => True) (fun _ _ => trivial)
  replace hd := (hd.agree (Agree.below hb)).mono (ok' := fun _ => True) (fun _ _ => trivial)
  have H3 := fun W => program_any (fun _ => True) f A c at_ data A2 c2 W
  by_cases hbig : 300 < f.bytes.length
  · clear H3
    obtain ⟨s, bs⟩ := f
    simp only at *
    have u1 : decide ((300 : Int) < (bs.length : Int)) = true := by simp; omega
    go_enter Try.func9, Try.ntmps9
    go_wp2_with fail
    generalize hW : (w.alloc (.cells #[.int .i64 s, .slice A bs.length c] 24)) = W0 at *
    clear hW
    refine (head_any W0).mono ?_
    rintro e W1 ⟨rfl, hn⟩
    replace X0 := X0.below hn
    replace hf := hf.agree (Agree.below hn)
    replace hd := hd.agree (Agree.below hn)
    replace hb := hb.trans (hn.mono hb.size)
    clear hn
    have X0a := X0.at0
    have X0b := X0.at1
    have X0c := X0.lt
    go_wp2_with fail
    clear X0a X0b X0c
    go_ret
    exact ⟨rfl, hb⟩
  by_cases hbig2 : 300 < data.length
  · clear H3
    obtain ⟨s, bs⟩ := f
    simp only at *
    have u1 : decide ((300 : Int) < (bs.length : Int)) = false := by simp; omega
    have u2 : decide ((300 : Int) < (data.length : Int)) = true := by simp; omega
    go_enter Try.func9, Try.ntmps9
    go_wp2_with fail
    generalize hW : (w.alloc (.cells #[.int .i64 s, .slice A bs.length c] 24)) = W0 at *
    clear hW
    refine (head_any W0).mono ?_
    rintro e W1 ⟨rfl, hn⟩
    replace X0 := X0.below hn
    replace hf := hf.agree (Agree.below hn)
    replace hd := hd.agree (Agree.below hn)
    replace hb := hb.trans (hn.mono hb.size)
    clear hn
    have X0a := X0.at0
    have X0b := X0.at1
    have X0c := X0.lt
    go_wp2_with fail
    clear X0a X0b X0c
    go_ret
    exact ⟨rfl, hb⟩
  rcases program_cases f at_ data with ⟨e, he, hp⟩ | ⟨hv, ha0, ha1, hp⟩
  · rw [hp] at H3
    obtain ⟨s, bs⟩ := f
    simp only at *
    have u1 : decide ((300 : Int) < (bs.length : Int)) = false := by simp; omega
    have u2 : decide ((300 : Int) < (data.length : Int)) = false := by simp; omega
    have he' : e ≠ 0 := by omega
    have b3 : (e != 0) = true := bne_iff_ne.2 he'
    go_enter Try.func9, Try.ntmps9
    go_wp2_with fail
    generalize hW : (w.alloc (.cells #[.int .i64 s, .slice A bs.length c] 24)) = W0 at *
    clear hW
    refine (head_any W0).mono ?_
    rintro e W1 ⟨rfl, hn⟩
    replace X0 := X0.below hn
    replace hf := hf.agree (Agree.below hn)
    replace hd := hd.agree (Agree.below hn)
    replace hb := hb.trans (hn.mono hb.size)
    clear hn
    have X0a := X0.at0
    have X0b := X0.at1
    have X0c := X0.lt
    go_wp2_with fail
    clear X0a X0b X0c
    refine (H3 W1 hf hd).mono ?_
    rintro e W2 ⟨A5, c5, rfl, hs5, hn⟩
    replace X0 := X0.below hn
    replace hf := hf.agree (Agree.below hn)
    replace hd := hd.agree (Agree.below hn)
    replace hb := hb.trans (hn.mono hb.size)
    clear hn
    have X0a := X0.at0
    have X0b := X0.at1
    have X0c := X0.lt
    go_wp2_with fail
    clear X0a X0b X0c
    go_ret
    exact ⟨rfl, hb⟩
  · rw [hp] at H3
    have hll := valid_len hv
    obtain ⟨k, hk⟩ : ∃ k : Nat, (k : Int) = cut % ((data.length : Int) + 1) := ⟨(cut % ((data.length : Int) + 1)).toNat, Int.toNat_of_nonneg (Int.emod_nonneg _ (by omega))⟩
    have hk2 : k ≤ data.length := by
      have := Int.emod_lt_of_pos cut (show (0 : Int) < (data.length : Int) + 1 by omega)
      omega
    obtain ⟨s0, rfl⟩ : ∃ n : Nat, at_ = (n : Int) := ⟨at_.toNat, by omega⟩
    rw [Int.toNat_natCast] at H3
    have htl : (data.take k).length = k := by simp; omega
    have hdl : (data.drop k).length = data.length - k := by simp
    have p1 := program_fits (s := (s0 : Int)) (data := data.take k) hv (by omega) (by rw [htl]; omega)
    have p2 := program_fits (f := ⟨f.sector, upd f.bytes s0 k (andWith (data.take k))⟩) (s := (s0 : Int) + k) (data := data.drop k) (by rw [valid_upd]; exact hv) (by omega) (by simp only [upd_length]; omega)
    rw [htl, Int.toNat_natCast] at p1
    rw [hdl, show ((s0 : Int) + (k : Int)).toNat = s0 + k by omega] at p2
    have hpe : Parts _ _ _ := parts_eq f s0 data.length k data hk2
    have hl0 := steps_length f s0 data.length (andWith data)
    have hl1 := steps_length f s0 k (andWith (data.take k))
    have hz1 := steps_last f s0 k (andWith (data.take k))
    have hl2 := steps_length ⟨f.sector, upd f.bytes s0 k (andWith (data.take k))⟩ (s0 + k) (data.length - k) (andWith (data.drop k))
    have hlm : ∀ x ∈ steps f s0 data.length (andWith data), x.bytes.length ≤ 1000000 := fun x hx => by rw [steps_len _ _ _ _ x hx]; omega
    have hgl : (upd f.bytes s0 k (andWith (data.take k))).length = f.bytes.length := by simp
    have H5 := fun W B d => program_any (fun _ => True) f A c (s0 : Int) (data.take k) B d W
    have H6 := fun W B d B' d' => program_any (fun _ => True) ⟨f.sector, upd f.bytes s0 k (andWith (data.take k))⟩ B' d' ((s0 : Int) + k) (data.drop k) B d W
    rw [p1] at H5
    rw [p2] at H6
    simp only [htl, hdl] at H5 H6
    generalize steps f s0 data.length (andWith data) = l at *
    generalize steps f s0 k (andWith (data.take k)) = l1 at *
    generalize steps ⟨f.sector, upd f.bytes s0 k (andWith (data.take k))⟩ (s0 + k) (data.length - k) (andWith (data.drop k)) = l2 at *
    generalize upd f.bytes s0 k (andWith (data.take k)) = gb at *
    obtain ⟨s, bs⟩ := f
    simp only at *
    clear p1 p2 hp hv
    have hme : IntKind.i64.wrap ((data.length : Int) + 1) = (data.length : Int) + 1 := IntWalk.i64_in _ (by omega)
    have hmr : cut % ((data.length : Int) + 1) = (k : Int) := hk.symm
    clear hk
    have u1 : decide ((300 : Int) < (bs.length : Int)) = false := by simp; omega
    have u2 : decide ((300 : Int) < (data.length : Int)) = false := by simp; omega
    have hl0i : (l.length : Int) = (data.length : Int) + 1 := by omega
    go_enter Try.func9, Try.ntmps9
    go_wp2_with fail
    generalize hW : (w.alloc (.cells #[.int .i64 s, .slice A bs.length c] 24)) = W0 at *
    clear hW
    refine (head_any W0).mono ?_
    rintro e W1 ⟨rfl, hn⟩
    replace X0 := X0.below hn
    replace hf := hf.agree (Agree.below hn)
    replace hd := hd.agree (Agree.below hn)
    replace hb := hb.trans (hn.mono hb.size)
    clear hn
    have X0a := X0.at0
    have X0b := X0.at1
    have X0c := X0.lt
    go_wp2_with fail
    clear X0a X0b X0c
    refine (H3 W1 hf hd).mono ?_
    rintro e W2 ⟨A5, c5, rfl, hs5, hn⟩
    replace hs5 := hs5.mono (ok' := fun _ => True) (fun _ _ => trivial)
    replace X0 := X0.below hn
    replace hf := hf.agree (Agree.below hn)
    replace hd := hd.agree (Agree.below hn)
    replace hb := hb.trans (hn.mono hb.size)
    clear hn
    have X0a := X0.at0
    have X0b := X0.at1
    have X0c := X0.lt
    go_wp2_with fail
    clear X0a X0b X0c
    rename_i Q K hK
    have q1 : (0 : Int) ≤ (k : Int) := by omega
    have q2 : (k : Int) ≤ (data.length : Int) := by omega
    have q3 : (k : Int) ≤ (c2 : Int) := by obtain ⟨A', c', hv, hc⟩ := hd.form; cases hv; omega
    have kS : ∀ W' : World, Below W2.heap.size W2 W' → W'.cell? ⟨w.heap.size, 0, none⟩ = some (.int .i64 s) ∧ W'.cell? ⟨w.heap.size, 1, none⟩ = some (.slice A bs.length c) := fun W' hn => ⟨(X0.below hn).at0, (X0.below hn).at1⟩
    refine wp_region_held_drew (S := fun W' => W'.cell? ⟨w.heap.size, 0, none⟩ = some (.int .i64 s) ∧ W'.cell? ⟨w.heap.size, 1, none⟩ = some (.slice A bs.length c)) (by kernel_rfl) (kS _ (Below.refl _ _).drew) (fun hHeld => ?_)
    refine wpAnyH_take (i := 0) (oi := ?oiB0) (v := ?vB0) ?hiB0 (by kernel_rfl) (by kernel_rfl) (by kernel_rfl) ?hQB0 (Or.inl ⟨?hwB0, ?hyB0⟩) (by assumption) ?restB0
    case hiB0 => (simp only [List.getElem?_toArray, List.getElem?_cons_zero]; rfl)
    case hQB0 => exact fun _ _ _ h => h
    case hwB0 => rfl
    case hyB0 => (intro w hSw; (try dsimp only at hSw); go_simp; try with_reducible rfl)
    try simp only [Act.put, List.setIfInBounds_toArray, List.set_cons_zero, List.set_cons_succ]
    refine wpAnyH_take (i := 1) (oi := ?oiB1) (v := ?vB1) ?hiB1 (by kernel_rfl) (by kernel_rfl) (by kernel_rfl) ?hQB1 (Or.inl ⟨?hwB1, ?hyB1⟩) (by assumption) ?restB1
    case hiB1 => (simp only [List.getElem?_toArray, List.getElem?_cons_succ, List.getElem?_cons_zero]; rfl)
    case hQB1 => exact fun _ _ _ h => h
    case hwB1 => rfl
    case hyB1 => (intro w hSw; (try dsimp only at hSw); go_simp; try with_reducible rfl)
    try simp only [Act.put, List.setIfInBounds_toArray, List.set_cons_zero, List.set_cons_succ]
    refine wpAnyH_take (i := 2) (oi := ?oiB2) (v := ?vB2) ?hiB2 (by kernel_rfl) (by kernel_rfl) (by kernel_rfl) ?hQB2 (Or.inl ⟨?hwB2, ?hyB2⟩) (by assumption) ?restB2
    case hiB2 => (simp only [List.getElem?_toArray, List.getElem?_cons_succ, List.getElem?_cons_zero]; rfl)
    case hQB2 => exact fun _ _ _ h => h
    case hwB2 => rfl
    case hyB2 => (intro w hSw; (try dsimp only at hSw); go_simp; try with_reducible rfl)
    try simp only [Act.put, List.setIfInBounds_toArray, List.set_cons_zero, List.set_cons_succ]
    refine wpAnyH_take (i := 3) (oi := ?oiB3) (v := ?vB3) ?hiB3 (by kernel_rfl) (by kernel_rfl) (by kernel_rfl) ?hQB3 (Or.inl ⟨?hwB3, ?hyB3⟩) (by assumption) ?restB3
    case hiB3 => (simp only [List.getElem?_toArray, List.getElem?_cons_succ, List.getElem?_cons_zero]; rfl)
    case hQB3 => exact fun _ _ _ h => h
    case hwB3 => rfl
    case hyB3 => (intro w hSw; (try dsimp only at hSw); go_simp; try with_reducible rfl)
    try simp only [Act.put, List.setIfInBounds_toArray, List.set_cons_zero, List.set_cons_succ]
    refine wpAnyH_take (i := 4) (oi := ?oiB4) (v := ?vB4) ?hiB4 (by kernel_rfl) (by kernel_rfl) (by kernel_rfl) ?hQB4 (Or.inl ⟨?hwB4, ?hyB4⟩) (by assumption) ?restB4
    case hiB4 => (simp only [List.getElem?_toArray, List.getElem?_cons_succ, List.getElem?_cons_zero]; rfl)
    case hQB4 => exact fun _ _ _ h => h
    case hwB4 => rfl
    case hyB4 => (intro w hSw; (try dsimp only at hSw); go_simp; try with_reducible rfl)
    try simp only [Act.put, List.setIfInBounds_toArray, List.set_cons_zero, List.set_cons_succ]
    refine wpAnyH_ready (rs := [5]) (by kernel_rfl) (by simp) ?_
    refine AllReadyH.cons (o := ?oiB5) ?hiB5 (fun K hK => ?restB5) AllReadyH.nil
    case hiB5 => (simp only [List.getElem?_toArray, List.getElem?_cons_succ, List.getElem?_cons_zero]; rfl)
    go_simp
    refine Calls.mono (H5 _ A2 c2 (hf.agree (Agree.below (Below.refl _ _).drew)) ((hd.agree (Agree.below (Below.refl _ _).drew)).take k hk2)) ?_
    rintro e Wc ⟨A6, c6, rfl, hs6, hn⟩
    go_wp2_with fail
    have hcW : Below W2.heap.size W2 Wc := (Below.refl _ _).drew.trans hn
    refine hK.out _ _ (kS _ hcW) (fun hHeld => ?_)
    clear hK K
    try simp only [Act.put, List.setIfInBounds_toArray, List.set_cons_zero, List.set_cons_succ]
    refine wpAnyH_take (i := 6) (oi := ?oiB6) (v := ?vB6) ?hiB6 (by kernel_rfl) (by kernel_rfl) (by kernel_rfl) ?hQB6 (Or.inl ⟨?hwB6, ?hyB6⟩) (by assumption) ?restB6
    case hiB6 => (simp only [List.getElem?_toArray, List.getElem?_cons_succ, List.getElem?_cons_zero]; rfl)
    case hQB6 => exact fun _ _ _ h => h
    case hwB6 => rfl
    case hyB6 => (intro w hSw; (try dsimp only at hSw); go_simp; try with_reducible rfl)
    try simp only [Act.put, List.setIfInBounds_toArray, List.set_cons_zero, List.set_cons_succ]
    refine wpAnyH_take (i := 7) (oi := ?oiB7) (v := ?vB7) ?hiB7 (by kernel_rfl) (by kernel_rfl) (by kernel_rfl) ?hQB7 (Or.inl ⟨?hwB7, ?hyB7⟩) (by assumption) ?restB7
    case hiB7 => (simp only [List.getElem?_toArray, List.getElem?_cons_succ, List.getElem?_cons_zero]; rfl)
    case hQB7 => exact fun _ _ _ h => h
    case hwB7 => rfl
    case hyB7 => (intro w hSw; (try dsimp only at hSw); go_simp; try with_reducible rfl)
    try simp only [Act.put, List.setIfInBounds_toArray, List.set_cons_zero, List.set_cons_succ]
    refine wpAnyH_take (i := 8) (oi := ?oiB8) (v := ?vB8) ?hiB8 (by kernel_rfl) (by kernel_rfl) (by kernel_rfl) ?hQB8 (Or.inl ⟨?hwB8, ?hyB8⟩) (by assumption) ?restB8
    case hiB8 => (simp only [List.getElem?_toArray, List.getElem?_cons_succ, List.getElem?_cons_zero]; rfl)
    case hQB8 => exact fun _ _ _ h => h
    case hwB8 => rfl
    case hyB8 => (intro w hSw; (try dsimp only at hSw); go_simp; try with_reducible rfl)
    try simp only [Act.put, List.setIfInBounds_toArray, List.set_cons_zero, List.set_cons_succ]
    refine wpAnyH_take (i := 9) (oi := ?oiB9) (v := ?vB9) ?hiB9 (by kernel_rfl) (by kernel_rfl) (by kernel_rfl) ?hQB9 (Or.inl ⟨?hwB9, ?hyB9⟩) (by assumption) ?restB9
    case hiB9 => (simp only [List.getElem?_toArray, List.getElem?_cons_succ, List.getElem?_cons_zero]; rfl)
    case hQB9 => exact fun _ _ _ h => h
    case hwB9 => rfl
    case hyB9 => (intro w hSw; (try dsimp only at hSw); go_simp; try with_reducible rfl)
    try simp only [Act.put, List.setIfInBounds_toArray, List.set_cons_zero, List.set_cons_succ]
    refine wpAnyH_take (i := 10) (oi := ?oiB10) (v := ?vB10) ?hiB10 (by kernel_rfl) (by kernel_rfl) (by kernel_rfl) ?hQB10 (Or.inl ⟨?hwB10, ?hyB10⟩) (by assumption) ?restB10
    case hiB10 => (simp only [List.getElem?_toArray, List.getElem?_cons_succ, List.getElem?_cons_zero]; rfl)
    case hQB10 => exact fun _ _ _ h => h
    case hwB10 => rfl
    case hyB10 => (intro w hSw; (try dsimp only at hSw); go_simp; try with_reducible rfl)
    try simp only [Act.put, List.setIfInBounds_toArray, List.set_cons_zero, List.set_cons_succ]
    refine wpAnyH_done (by kernel_rfl) ?_ _
    replace hs6 := hs6.mono (ok' := fun _ => True) (fun _ _ => trivial)
    clear hn kS H5
    simp only [Exit.then]
    apply hK
    clear hK
    replace X0 := X0.below hcW
    replace hf := hf.agree (Agree.below hcW)
    replace hd := hd.agree (Agree.below hcW)
    replace hs5 := hs5.agree (Agree.below hcW)
    replace hb := hb.trans (hcW.mono hb.size)
    clear hcW
    have HL := last_ok (fun _ => True) l1 A6 c6 k ⟨s, gb⟩ Wc hs6 hl1 hz1 (by omega)
    rw [hl1] at HL
    simp only [hgl] at HL
    clear hHeld
    have X0a := X0.at0
    have X0b := X0.at1
    have X0c := X0.lt
    go_wp2_with fail
    clear X0a X0b X0c
    refine (HL).mono ?_
    rintro e W3 ⟨A7, c7, rfl, hs7, hn⟩
    clear HL
    replace X0 := X0.below hn
    replace hf := hf.agree (Agree.below hn)
    replace hd := hd.agree (Agree.below hn)
    replace hs5 := hs5.agree (Agree.below hn)
    replace hs6 := hs6.agree (Agree.below hn)
    replace hb := hb.trans (hn.mono hb.size)
    clear hn
    have X0a := X0.at0
    have X0b := X0.at1
    have X0c := X0.lt
    go_wp2_with fail
    clear X0a X0b X0c
    have hn : Below W3.heap.size W3 (W3.alloc (.cells #[.int .i64 s, .slice A7 bs.length c7] 24)) := (Below.refl _ W3).alloc (Nat.le_refl _) _
    have X1 := BoxAt.new W3 s (.slice A7 bs.length c7)
    generalize hW : (W3.alloc (.cells #[.int .i64 s, .slice A7 bs.length c7] 24)) = W4 at *
    clear hW
    replace X0 := X0.below hn
    replace hf := hf.agree (Agree.below hn)
    replace hd := hd.agree (Agree.below hn)
    replace hs5 := hs5.agree (Agree.below hn)
    replace hs6 := hs6.agree (Agree.below hn)
    replace hs7 := hs7.agree (Agree.below hn)
    replace hb := hb.trans (hn.mono hb.size)
    clear hn
    rename_i K hK
    have q4 : IntKind.i64.wrap ((s0 : Int) + (k : Int)) = (s0 : Int) + (k : Int) := IntWalk.i64_in _ (by omega)
    have kS : ∀ W' : World, Below W4.heap.size W4 W' → W'.cell? ⟨W3.heap.size, 0, none⟩ = some (.int .i64 s) ∧ W'.cell? ⟨W3.heap.size, 1, none⟩ = some (.slice A7 bs.length c7) := fun W' hn => ⟨(X1.below hn).at0, (X1.below hn).at1⟩
    have hfr : isSlice kU8 (fun _ => True) W4 (.slice (if c2 = k then A2 else Option.map (fun x => x.add k) A2) (data.length - k) (c2 - k)) (data.drop k) := hd.tailOf (by decide) k k hk2 (by show k = k * 1; omega)
    refine wp_region_held_drew (S := fun W' => W'.cell? ⟨W3.heap.size, 0, none⟩ = some (.int .i64 s) ∧ W'.cell? ⟨W3.heap.size, 1, none⟩ = some (.slice A7 bs.length c7)) (by kernel_rfl) (kS _ (Below.refl _ _).drew) (fun hHeld => ?_)
    refine wpAnyH_take (i := 0) (oi := ?oiC0) (v := ?vC0) ?hiC0 (by kernel_rfl) (by kernel_rfl) (by kernel_rfl) ?hQC0 (Or.inl ⟨?hwC0, ?hyC0⟩) (by assumption) ?restC0
    case hiC0 => (simp only [List.getElem?_toArray, List.getElem?_cons_zero]; rfl)
    case hQC0 => exact fun _ _ _ h => h
    case hwC0 => rfl
    case hyC0 => (intro w hSw; (try dsimp only at hSw); go_simp; try with_reducible rfl)
    try simp only [Act.put, List.setIfInBounds_toArray, List.set_cons_zero, List.set_cons_succ]
    refine wpAnyH_take (i := 1) (oi := ?oiC1) (v := ?vC1) ?hiC1 (by kernel_rfl) (by kernel_rfl) (by kernel_rfl) ?hQC1 (Or.inl ⟨?hwC1, ?hyC1⟩) (by assumption) ?restC1
    case hiC1 => (simp only [List.getElem?_toArray, List.getElem?_cons_succ, List.getElem?_cons_zero]; rfl)
    case hQC1 => exact fun _ _ _ h => h
    case hwC1 => rfl
    case hyC1 => (intro w hSw; (try dsimp only at hSw); go_simp; try with_reducible rfl)
    try simp only [Act.put, List.setIfInBounds_toArray, List.set_cons_zero, List.set_cons_succ]
    refine wpAnyH_take (i := 2) (oi := ?oiC2) (v := ?vC2) ?hiC2 (by kernel_rfl) (by kernel_rfl) (by kernel_rfl) ?hQC2 (Or.inl ⟨?hwC2, ?hyC2⟩) (by assumption) ?restC2
    case hiC2 => (simp only [List.getElem?_toArray, List.getElem?_cons_succ, List.getElem?_cons_zero]; rfl)
    case hQC2 => exact fun _ _ _ h => h
    case hwC2 => rfl
    case hyC2 => (intro w hSw; (try dsimp only at hSw); go_simp; try with_reducible rfl)
    try simp only [Act.put, List.setIfInBounds_toArray, List.set_cons_zero, List.set_cons_succ]
    refine wpAnyH_take (i := 3) (oi := ?oiC3) (v := ?vC3) ?hiC3 (by kernel_rfl) (by kernel_rfl) (by kernel_rfl) ?hQC3 (Or.inl ⟨?hwC3, ?hyC3⟩) (by assumption) ?restC3
    case hiC3 => (simp only [List.getElem?_toArray, List.getElem?_cons_succ, List.getElem?_cons_zero]; rfl)
    case hQC3 => exact fun _ _ _ h => h
    case hwC3 => rfl
    case hyC3 => (intro w hSw; (try dsimp only at hSw); go_simp; try with_reducible rfl)
    try simp only [Act.put, List.setIfInBounds_toArray, List.set_cons_zero, List.set_cons_succ]
    refine wpAnyH_take (i := 4) (oi := ?oiC4) (v := ?vC4) ?hiC4 (by kernel_rfl) (by kernel_rfl) (by kernel_rfl) ?hQC4 (Or.inl ⟨?hwC4, ?hyC4⟩) (by assumption) ?restC4
    case hiC4 => (simp only [List.getElem?_toArray, List.getElem?_cons_succ, List.getElem?_cons_zero]; rfl)
    case hQC4 => exact fun _ _ _ h => h
    case hwC4 => rfl
    case hyC4 => (intro w hSw; (try dsimp only at hSw); go_simp; try with_reducible rfl)
    try simp only [Act.put, List.setIfInBounds_toArray, List.set_cons_zero, List.set_cons_succ]
    refine wpAnyH_take (i := 5) (oi := ?oiC5) (v := ?vC5) ?hiC5 (by kernel_rfl) (by kernel_rfl) (by kernel_rfl) ?hQC5 (Or.inl ⟨?hwC5, ?hyC5⟩) (by assumption) ?restC5
    case hiC5 => (simp only [List.getElem?_toArray, List.getElem?_cons_succ, List.getElem?_cons_zero]; rfl)
    case hQC5 => exact fun _ _ _ h => h
    case hwC5 => rfl
    case hyC5 => (intro w hSw; (try dsimp only at hSw); go_simp; try with_reducible rfl)
    try simp only [Act.put, List.setIfInBounds_toArray, List.set_cons_zero, List.set_cons_succ]
    refine wpAnyH_take (i := 6) (oi := ?oiC6) (v := ?vC6) ?hiC6 (by kernel_rfl) (by kernel_rfl) (by kernel_rfl) ?hQC6 (Or.inl ⟨?hwC6, ?hyC6⟩) (by assumption) ?restC6
    case hiC6 => (simp only [List.getElem?_toArray, List.getElem?_cons_succ, List.getElem?_cons_zero]; rfl)
    case hQC6 => exact fun _ _ _ h => h
    case hwC6 => rfl
    case hyC6 => (intro w hSw; (try dsimp only at hSw); go_simp; try with_reducible rfl)
    try simp only [Act.put, List.setIfInBounds_toArray, List.set_cons_zero, List.set_cons_succ]
    refine wpAnyH_ready (rs := [7]) (by kernel_rfl) (by simp) ?_
    refine AllReadyH.cons (o := ?oiC7) ?hiC7 (fun K hK => ?restC7) AllReadyH.nil
    case hiC7 => (simp only [List.getElem?_toArray, List.getElem?_cons_succ, List.getElem?_cons_zero]; rfl)
    generalize (if c2 = k then A2 else Option.map (fun x => x.add k) A2) = B2 at hfr ⊢
    go_simp
    have HC := H6 W4.drew _ _ A7 c7 (by simp only [hgl]; exact hs7.agree (Agree.below (Below.refl _ _).drew)) (hfr.agree (Agree.below (Below.refl _ _).drew))
    simp only [hgl] at HC
    refine Calls.mono HC ?_
    rintro e Wd ⟨A8, c8, rfl, hs8, hn⟩
    go_wp2_with fail
    have hcW : Below W4.heap.size W4 Wd := (Below.refl _ _).drew.trans hn
    refine hK.out _ _ (kS _ hcW) (fun hHeld => ?_)
    clear hK K
    try simp only [Act.put, List.setIfInBounds_toArray, List.set_cons_zero, List.set_cons_succ]
    refine wpAnyH_take (i := 8) (oi := ?oiC8) (v := ?vC8) ?hiC8 (by kernel_rfl) (by kernel_rfl) (by kernel_rfl) ?hQC8 (Or.inl ⟨?hwC8, ?hyC8⟩) (by assumption) ?restC8
    case hiC8 => (simp only [List.getElem?_toArray, List.getElem?_cons_succ, List.getElem?_cons_zero]; rfl)
    case hQC8 => exact fun _ _ _ h => h
    case hwC8 => rfl
    case hyC8 => (intro w hSw; (try dsimp only at hSw); go_simp; try with_reducible rfl)
    try simp only [Act.put, List.setIfInBounds_toArray, List.set_cons_zero, List.set_cons_succ]
    refine wpAnyH_take (i := 9) (oi := ?oiC9) (v := ?vC9) ?hiC9 (by kernel_rfl) (by kernel_rfl) (by kernel_rfl) ?hQC9 (Or.inl ⟨?hwC9, ?hyC9⟩) (by assumption) ?restC9
    case hiC9 => (simp only [List.getElem?_toArray, List.getElem?_cons_succ, List.getElem?_cons_zero]; rfl)
    case hQC9 => exact fun _ _ _ h => h
    case hwC9 => rfl
    case hyC9 => (intro w hSw; (try dsimp only at hSw); go_simp; try with_reducible rfl)
    try simp only [Act.put, List.setIfInBounds_toArray, List.set_cons_zero, List.set_cons_succ]
    refine wpAnyH_take (i := 10) (oi := ?oiC10) (v := ?vC10) ?hiC10 (by kernel_rfl) (by kernel_rfl) (by kernel_rfl) ?hQC10 (Or.inl ⟨?hwC10, ?hyC10⟩) (by assumption) ?restC10
    case hiC10 => (simp only [List.getElem?_toArray, List.getElem?_cons_succ, List.getElem?_cons_zero]; rfl)
    case hQC10 => exact fun _ _ _ h => h
    case hwC10 => rfl
    case hyC10 => (intro w hSw; (try dsimp only at hSw); go_simp; try with_reducible rfl)
    try simp only [Act.put, List.setIfInBounds_toArray, List.set_cons_zero, List.set_cons_succ]
    refine wpAnyH_take (i := 11) (oi := ?oiC11) (v := ?vC11) ?hiC11 (by kernel_rfl) (by kernel_rfl) (by kernel_rfl) ?hQC11 (Or.inl ⟨?hwC11, ?hyC11⟩) (by assumption) ?restC11
    case hiC11 => (simp only [List.getElem?_toArray, List.getElem?_cons_succ, List.getElem?_cons_zero]; rfl)
    case hQC11 => exact fun _ _ _ h => h
    case hwC11 => rfl
    case hyC11 => (intro w hSw; (try dsimp only at hSw); go_simp; try with_reducible rfl)
    try simp only [Act.put, List.setIfInBounds_toArray, List.set_cons_zero, List.set_cons_succ]
    refine wpAnyH_take (i := 12) (oi := ?oiC12) (v := ?vC12) ?hiC12 (by kernel_rfl) (by kernel_rfl) (by kernel_rfl) ?hQC12 (Or.inl ⟨?hwC12, ?hyC12⟩) (by assumption) ?restC12
    case hiC12 => (simp only [List.getElem?_toArray, List.getElem?_cons_succ, List.getElem?_cons_zero]; rfl)
    case hQC12 => exact fun _ _ _ h => h
    case hwC12 => rfl
    case hyC12 => (intro w hSw; (try dsimp only at hSw); go_simp; try with_reducible rfl)
    try simp only [Act.put, List.setIfInBounds_toArray, List.set_cons_zero, List.set_cons_succ]
    refine wpAnyH_done (by kernel_rfl) ?_ _
    replace hs8 := hs8.mono (ok' := fun _ => True) (fun _ _ => trivial)
    clear hn kS H6 HC hfr
    simp only [Exit.then]
    apply hK
    clear hK
    replace X0 := X0.below hcW
    replace X1 := X1.below hcW
    replace hf := hf.agree (Agree.below hcW)
    replace hd := hd.agree (Agree.below hcW)
    replace hs5 := hs5.agree (Agree.below hcW)
    replace hs6 := hs6.agree (Agree.below hcW)
    replace hs7 := hs7.agree (Agree.below hcW)
    replace hb := hb.trans (hcW.mono hb.size)
    clear hcW
    have n1 : (l2.length : Int) = (data.length : Int) - (k : Int) + 1 := by omega
    have n2 : IntKind.i64.wrap ((data.length : Int) - (k : Int)) = (data.length : Int) - (k : Int) := IntWalk.i64_in _ (by omega)
    have n3 : IntKind.i64.wrap ((data.length : Int) - (k : Int) + 1) = (data.length : Int) - (k : Int) + 1 := IntWalk.i64_in _ (by omega)
    have X0a := X0.at0
    have X0b := X0.at1
    have X0c := X0.lt
    have X1a := X1.at0
    have X1b := X1.at1
    have X1c := X1.lt
    go_wp2_with fail
    clear X0a X0b X0c
    clear X1a X1b X1c
    rename_i K hK
    have hsz := hb.size
    have n4 : (1 : Int) ≤ ((data.length - k : Nat) : Int) + 1 := by omega
    obtain ⟨g8, o8, _, _, rfl, _⟩ := slice_get hs8 0 (by omega)
    have tl : isSlice kFlash (fun _ => True) Wd (.slice (if c8 = 1 then some ⟨g8, o8, none⟩ else some ⟨g8, o8 + 2, none⟩) (data.length - k) (c8 - 1)) (l2.drop 1) := by
      have := hs8.tailOf (by decide) 1 2 (by omega) (by rfl)
      simp only [hl2, Nat.add_sub_cancel, Option.map_some] at this
      exact this
    have t0 := (tl.bounded (ok' := fun k => k < Wd.heap.size) (fun k _ hk => hk))
    have l0 := (hs6.bounded (ok' := fun k => k < Wd.heap.size) (fun k _ hk => hk))
    have v0 : isOwn kFlash 24 (fun k => k < Wd.heap.size) Wd.heap.size (Wd.drew.alloc (.cells #[] 24)) (.slice (some ⟨Wd.heap.size, 0, none⟩) 0 0) [] := own_none _ (Nat.le_refl _) (World.alloc_heap_new Wd.drew _)
    have ag : Agree (fun k => k < Wd.heap.size) Wd (Wd.drew.alloc (.cells #[] 24)) := (Agree.drew _ _).trans (Agree.alloc _ _ _)
    have e1 : ∀ k, (Value.slice (some ⟨Wd.heap.size, 0, none⟩) 0 0).ownBlock = some k → ¬ k < Wd.heap.size := by intro k hk; simp [Value.ownBlock] at hk; omega
    have e2 : ([] : List Fl).length + l1.length ≤ maxLen := by simp only [List.length_nil]; unfold maxLen; omega
    have e3 : (([] : List Fl).length + l1.length) * 32 ≤ 140737488355328 := by simp only [List.length_nil]; omega
    have e4 : Wd.heap.size ≤ (Wd.drew.alloc (.cells #[] 24)).heap.size := by simp
    have f2 : l1.length + (l2.drop 1).length ≤ maxLen := by simp only [List.length_drop]; unfold maxLen; omega
    have f3 : (l1.length + (l2.drop 1).length) * 32 ≤ 140737488355328 := by simp only [List.length_drop]; omega
    have b0 : Below Wd.heap.size Wd (Wd.drew.alloc (.cells #[] 24)) := (Below.refl _ _).drew.alloc (Nat.le_refl _) _
    
    refine wp_region_held_drew (S := fun _ => True) (by kernel_rfl) (trivial) (fun hHeld => ?_)
    refine wpAnyH_take (i := 0) (oi := ?oiD0) (v := ?vD0) ?hiD0 (by kernel_rfl) (by kernel_rfl) (by kernel_rfl) ?hQD0 (Or.inl ⟨?hwD0, ?hyD0⟩) (by assumption) ?restD0
    case hiD0 => (simp only [List.getElem?_toArray, List.getElem?_cons_zero]; rfl)
    case hQD0 => exact fun _ _ _ h => h
    case hwD0 => rfl
    case hyD0 => (intro w hSw; (try dsimp only at hSw); go_simp; try with_reducible rfl)
    try simp only [Act.put, List.setIfInBounds_toArray, List.set_cons_zero, List.set_cons_succ]
    refine wpAnyH_take (i := 1) (oi := ?oiD1) (v := ?vD1) ?hiD1 (by kernel_rfl) (by kernel_rfl) (by kernel_rfl) ?hQD1 (Or.inl ⟨?hwD1, ?hyD1⟩) (by assumption) ?restD1
    case hiD1 => (simp only [List.getElem?_toArray, List.getElem?_cons_succ, List.getElem?_cons_zero]; rfl)
    case hQD1 => exact fun _ _ _ h => h
    case hwD1 => rfl
    case hyD1 => (intro w hSw; (try dsimp only at hSw); go_simp; try with_reducible rfl)
    try simp only [Act.put, List.setIfInBounds_toArray, List.set_cons_zero, List.set_cons_succ]
    refine wpAnyH_take (i := 2) (oi := ?oiD2) (v := ?vD2) ?hiD2 (by kernel_rfl) (by kernel_rfl) (by kernel_rfl) ?hQD2 (Or.inl ⟨?hwD2, ?hyD2⟩) (by assumption) ?restD2
    case hiD2 => (simp only [List.getElem?_toArray, List.getElem?_cons_succ, List.getElem?_cons_zero]; rfl)
    case hQD2 => exact fun _ _ _ h => h
    case hwD2 => rfl
    case hyD2 => (intro w hSw; (try dsimp only at hSw); go_simp; try with_reducible rfl)
    try simp only [Act.put, List.setIfInBounds_toArray, List.set_cons_zero, List.set_cons_succ]
    refine wpAnyH_take (i := 4) (oi := ?oiD4) (v := ?vD4) ?hiD4 (by kernel_rfl) (by kernel_rfl) (by kernel_rfl) ?hQD4 (Or.inl ⟨?hwD4, ?hyD4⟩) (by assumption) ?restD4
    case hiD4 => (simp only [List.getElem?_toArray, List.getElem?_cons_succ, List.getElem?_cons_zero]; rfl)
    case hQD4 => exact fun _ _ _ h => h
    case hwD4 => rfl
    case hyD4 => (intro w hSw; (try dsimp only at hSw); go_simp; try with_reducible rfl)
    try simp only [Act.put, List.setIfInBounds_toArray, List.set_cons_zero, List.set_cons_succ]
    refine wpAnyH_take (i := 6) (oi := ?oiD6) (v := ?vD6) ?hiD6 (by kernel_rfl) (by kernel_rfl) (by kernel_rfl) ?hQD6 (Or.inl ⟨?hwD6, ?hyD6⟩) (by assumption) ?restD6
    case hiD6 => (simp only [List.getElem?_toArray, List.getElem?_cons_succ, List.getElem?_cons_zero]; rfl)
    case hQD6 => exact fun _ _ _ h => h
    case hwD6 => rfl
    case hyD6 => (intro w hSw; (try dsimp only at hSw); go_simp; try with_reducible rfl)
    try simp only [Act.put, List.setIfInBounds_toArray, List.set_cons_zero, List.set_cons_succ]
    refine wpAnyH_take (i := 7) (oi := ?oiD7) (v := ?vD7) ?hiD7 (by kernel_rfl) (by kernel_rfl) (by kernel_rfl) ?hQD7 (Or.inl ⟨?hwD7, ?hyD7⟩) (by assumption) ?restD7
    case hiD7 => (simp only [List.getElem?_toArray, List.getElem?_cons_succ, List.getElem?_cons_zero]; rfl)
    case hQD7 => exact fun _ _ _ h => h
    case hwD7 => rfl
    case hyD7 => (intro w hSw; (try dsimp only at hSw); go_simp; try with_reducible rfl)
    try simp only [Act.put, List.setIfInBounds_toArray, List.set_cons_zero, List.set_cons_succ]
    refine wpAnyH_ready (rs := [3]) (by kernel_rfl) (by simp) ?_
    refine AllReadyH.cons (o := ?oiD3) ?hiD3 (fun K hK => ?restD3) AllReadyH.nil
    case hiD3 => (simp only [List.getElem?_toArray, List.getElem?_cons_succ, List.getElem?_cons_zero]; rfl)
    go_simp
    refine hK.out _ _ (trivial) (fun hHeld => ?_)
    clear hK K
    try simp only [Act.put, List.setIfInBounds_toArray, List.set_cons_zero, List.set_cons_succ]
    refine wpAnyH_ready (rs := [5]) (by kernel_rfl) (by simp) ?_
    refine AllReadyH.cons (o := ?oiD5) ?hiD5 (fun K hK => ?restD5) AllReadyH.nil
    case hiD5 => (simp only [List.getElem?_toArray, List.getElem?_cons_succ, List.getElem?_cons_zero]; rfl)
    rw [if_pos (by rfl)]
    refine oper_append_K _ _ rfl elem30 (fun k => k < Wd.heap.size) Wd.heap.size (.slice (some ⟨Wd.heap.size, 0, none⟩) 0 0) (.slice A6 l1.length c6) [] l1 rfl (by rw [hl1]; rfl) v0 (l0.agree ag) e1 e2 e3 e4 ?_
    intro E1 d1 Wb ho1 hg1
    simp only [List.nil_append] at ho1 ⊢
    have ag1 := ag.trans (Agree.grownBy hg1 e1)
    have h2 : Wd.heap.size ≤ Wb.heap.size := Nat.le_trans e4 hg1.size
    have b1 := b0.grown hg1 e4 (fun k hk => by have := e1 k hk; omega)
    have e5 : ∀ k, (Value.slice E1 l1.length d1).ownBlock = some k → ¬ k < Wd.heap.size := fun k hk => Nat.not_lt.2 (ho1.lt k hk).1
    refine hK.out _ _ (trivial) (fun hHeld => ?_)
    clear hK K
    try simp only [Act.put, List.setIfInBounds_toArray, List.set_cons_zero, List.set_cons_succ]
    refine wpAnyH_ready (rs := [8]) (by kernel_rfl) (by simp) ?_
    refine AllReadyH.cons (o := ?oiD8) ?hiD8 (fun K hK => ?restD8) AllReadyH.nil
    case hiD8 => (simp only [List.getElem?_toArray, List.getElem?_cons_succ, List.getElem?_cons_zero]; rfl)
    rw [if_pos (by rfl)]
    generalize (if c8 = 1 then (some ⟨g8, o8, none⟩ : Option Addr) else some ⟨g8, o8 + 2, none⟩) = B8 at t0 ⊢
    refine oper_append_K _ _ rfl elem30 (fun k => k < Wd.heap.size) Wd.heap.size (.slice E1 l1.length d1) (.slice B8 (data.length - k) (c8 - 1)) l1 (l2.drop 1) rfl rfl ho1 (t0.agree ag1) e5 f2 f3 h2 ?_
    intro E2 d2 We ho2 hg2
    have b2 := b1.grown hg2 h2 (fun k hk => (ho1.lt k hk).1)
    refine hK.out _ _ (trivial) (fun hHeld => ?_)
    clear hK K
    try simp only [Act.put, List.setIfInBounds_toArray, List.set_cons_zero, List.set_cons_succ]
    refine wpAnyH_ready (rs := [9]) (by kernel_rfl) (by simp) ?_
    refine AllReadyH.cons (o := ?oiD9) ?hiD9 (fun K hK => ?restD9) AllReadyH.nil
    case hiD9 => (simp only [List.getElem?_toArray, List.getElem?_cons_succ, List.getElem?_cons_zero]; rfl)
    go_simp
    have HC := samelist_any (fun _ => True) l (l1 ++ l2.drop 1) A5 E2 c5 d2 We (hs5.agree (Agree.below b2)) (ho2.slice (fun _ _ => trivial) (fun _ _ => trivial)) (by omega) hlm
    rw [show decide (l = l1 ++ l2.drop 1) = true from decide_eq_true hpe, hl0] at HC
    simp only [List.length_append, List.length_drop, hl1, hl2, Nat.add_sub_cancel] at HC
    with_reducible refine Calls.mono HC ?_
    rintro e Wf ⟨rfl, hn⟩
    go_wp2_with fail
    have hcW : Below Wd.heap.size Wd Wf := b2.trans (hn.mono b2.size)
    refine hK.out _ _ (trivial) (fun hHeld => ?_)
    clear hK K
    try simp only [Act.put, List.setIfInBounds_toArray, List.set_cons_zero, List.set_cons_succ]
    refine wpAnyH_take (i := 10) (oi := ?oiD10) (v := ?vD10) ?hiD10 (by kernel_rfl) (by kernel_rfl) (by kernel_rfl) ?hQD10 (Or.inl ⟨?hwD10, ?hyD10⟩) (by assumption) ?restD10
    case hiD10 => (simp only [List.getElem?_toArray, List.getElem?_cons_succ, List.getElem?_cons_zero]; rfl)
    case hQD10 => exact fun _ _ _ h => h
    case hwD10 => rfl
    case hyD10 => (intro w hSw; (try dsimp only at hSw); go_simp; try with_reducible rfl)
    try simp only [Act.put, List.setIfInBounds_toArray, List.set_cons_zero, List.set_cons_succ]
    refine wpAnyH_take (i := 11) (oi := ?oiD11) (v := ?vD11) ?hiD11 (by kernel_rfl) (by kernel_rfl) (by kernel_rfl) ?hQD11 (Or.inl ⟨?hwD11, ?hyD11⟩) (by assumption) ?restD11
    case hiD11 => (simp only [List.getElem?_toArray, List.getElem?_cons_succ, List.getElem?_cons_zero]; rfl)
    case hQD11 => exact fun _ _ _ h => h
    case hwD11 => rfl
    case hyD11 => (intro w hSw; (try dsimp only at hSw); go_simp; try with_reducible rfl)
    try simp only [Act.put, List.setIfInBounds_toArray, List.set_cons_zero, List.set_cons_succ]
    refine wpAnyH_done (by kernel_rfl) ?_ _
    simp only [Exit.then]
    apply hK
    clear hK
    go_wp2
    go_ret
    exact ⟨rfl, hb.trans (hcW.mono hsz)⟩
end Go.Proofs.Ytdoehnnhbfmleaa
