/- Package flash: New, and bytes.Repeat of one byte. -/
import Derived.Test.YtdoehnnhbfmleaaR6
import Derived.Lib.MakeNoZero
import Derived.Shelf.Bits.Mul64
import Derived.Shelf.Abstract
namespace Go.Proofs.Ytdoehnnhbfmleaa
open Go Go.RowKit Go.Shelf

set_option maxRecDepth 100000 in
set_option maxHeartbeats 1000000 in
theorem mul64_any (n : Nat) (hn : n ≤ 16384) (w : World) : Calls Try.prog 174 #[.int .u64 1, .int .u64 n] w fun e w' => e = .returned (.tuple #[.int .u64 0, .int .u64 n]) ∧ w = w' := by
  have m0 : bits .and .u64 0 4294967295 = 0 := Mul64.maskN 0 (by omega)
  have m1 : bits .and .u64 1 4294967295 = 1 := Mul64.maskN 1 (by omega)
  have m2 := Mul64.maskN n (by omega)
  have e1 : n % 4294967296 = n := by omega
  have e2 : (n : Int) / 4294967296 = 0 := by omega
  have e3 : IntKind.u64.wrap (n : Int) = n := Mul64.wrapN n (by omega)
  have e4 : IntKind.u64.wrap 0 = 0 := Mul64.wrapN 0 (by omega)
  rw [e1] at m2
  go_enter Try.func174, Try.ntmps174
  go_wp2
  go_ret2
  refine ⟨?_, rfl⟩
  simp

set_option maxRecDepth 100000 in
theorem mul_any (n : Nat) (hn : n ≤ 16384) (w : World) : Calls Try.prog 133 #[.int .u64 1, .int .u64 n] w fun e w' => e = .returned (.tuple #[.int .u64 0, .int .u64 n]) ∧ w = w' := by
  go_enter Try.func133, Try.ntmps133
  go_wp2_with (go_at_call 174; refine (mul64_any n hn _).mono ?_; rintro e w' ⟨rfl, rfl⟩)
  go_ret2
  exact ⟨rfl, rfl⟩

/-- A row of which the first cells are 255. -/
structure RepSt (base g p n : Nat) (W : World) : Prop where
  lies : ∃ cur : Array Value, W.heap[g]? = some (.cells cur 5 (0, 0)) ∧ n ≤ cur.size ∧ ∀ j, j < p → cur[j]? = some (.int .u8 255)
  ge : base ≤ g

theorem RepSt.slice {base g p n c : Nat} {W : World} (h : RepSt base g p n W) (m : Nat) (hm : m ≤ p) (hc : m ≤ c) : isSlice kU8 (fun k => base ≤ k) W (.slice (some ⟨g, 0, none⟩) m c) (List.replicate m 255) := by
  obtain ⟨cur, hg, hn, hj⟩ := h.lies
  have := isSlice.of_cells (d := kU8) (ok := fun k => base ≤ k) (W := W) (b := g) (o := 0) (c := c) (xs := List.replicate m 255) h.ge (by simpa using hc) (reads_bytes _ _ _) (fun j u hu => by
    rw [flatten_bytes] at hu
    have hlt : j < m := by
      have := (List.getElem?_eq_some_iff.1 hu).1
      simpa using this
    simp only [List.getElem?_map, List.getElem?_replicate, if_pos hlt, Option.map_some] at hu
    rw [Nat.zero_add, cell_of_row _ _ _ _ _ _ hg, hj j (by omega), ← hu]
    rfl)
  simpa using this

/-- copy of some of them behind them. -/
theorem RepSt.copy {base g p n : Nat} {W : World} (h : RepSt base g p n W) (ty dl dc sl sc b : Nat) (hbs : ∀ j, j < min sl dl → W.cell? ⟨b, j, none⟩ = some (.int .u8 255)) (hfit : p + min sl dl ≤ n) :
    ∃ W', (Builtin.copy_ #[22, 22] ty #[.slice (some ⟨g, p, none⟩) dl dc, .slice (some ⟨b, 0, none⟩) sl sc]).run Try.prog W = .ok (.int .i64 (min sl dl : Nat)) W' ∧ RepSt base g (p + min sl dl) n W' ∧ Below base W W' := by
  obtain ⟨cur, hg, hn, hj⟩ := h.lies
  have hs1 : (Try.prog.info? 5).map (·.size) = some 1 := by kernel_rfl
  have hrun := run_copy_row (P := Try.prog) W 22 22 ty 5 g p dl dc ⟨b, 0, none⟩ sl sc cur 5 (List.replicate (min sl dl) (.int .u8 255)) Try.underlying22 hs1 hg (by simp)
    (fun j v hv => by
      rw [List.getElem?_replicate] at hv
      split at hv
      · rename_i hlt
        cases hv
        rw [show (⟨b, 0, none⟩ : Addr).add j = ⟨b, j, none⟩ from by unfold Addr.add; split <;> simp_all]
        exact hbs j hlt
      · cases hv) (by simp; omega) (by intro v hv; rw [List.eq_of_mem_replicate hv]; rfl)
  simp only [List.length_replicate, goInt] at hrun
  refine ⟨_, hrun, ⟨⟨_, setRow_heap _ _ _ _ _ _ hg, ?_, ?_⟩, h.ge⟩, below_setRow (Below.refl _ _) h.ge _⟩
  · simp; omega
  · intro j hlt
    have hp : p ≤ cur.toList.length := by simp; omega
    rw [List.getElem?_toArray, List.append_assoc]
    by_cases h1 : j < p
    · rw [List.getElem?_append_left (by simp; omega), List.getElem?_take, if_pos h1]
      simpa using hj j h1
    · rw [List.getElem?_append_right (by simp; omega), List.getElem?_append_left (by simp; omega), List.getElem?_replicate, if_pos (by simp; omega)]

theorem exec_copy {P : Program} {w : World} {o : Oper} {a : Act} {s x : Operand} {t : TypeId} {v xv v' : Value} {w' : World} (ho : o.op = .call { callee := .builtin .copy, args := #[s, x], argTypes := #[t, t] }) (hs : a.eval s = v) (hx : a.eval x = xv)
    (hr : (Builtin.copy_ #[t, t] o.type #[v, xv]).run P w = .ok v' w') : (execOp a.eval o).run P w = .ok (.value v') w' := by
  unfold execOp
  simp only [ho, resolve, invoke, builtin, Sem.run_bind, Sem.run_pure, Result.andThen_ok, List.map_toArray, List.map_cons, List.map_nil, hs, hx, hr]

theorem step_copy {P : Program} {w : World} {ops : Array Oper} {o : Oper} {a : Act} {Q : Exit → Act → World → Prop} {K : Act → World → Prop} {E0 : Prop} (hgd : o.guard = none) (s x : Operand) (t : TypeId) (ho : o.op = .call { callee := .builtin .copy, args := #[s, x], argTypes := #[t, t] })
    (v xv v' : Value) (w' : World) (hs : a.eval s = v) (hx : a.eval x = xv) (hr : (Builtin.copy_ #[t, t] o.type #[v, xv]).run P w = .ok v' w') (h : K (a.put o.dst v') w') : if Region.wanted o (yielded ops a.tmps) = true then Oper.wp P o a w K Q else E0 := by
  have hw : Region.wanted o (yielded ops a.tmps) = true := by simp [Region.wanted, hgd]
  rw [if_pos hw]
  exact wp_exec (exec_copy ho hs hx hr) h

theorem wpList_copy_run {P : Program} {w : World} {ops : Array Oper} {rest : List Oper} {o : Oper} {a : Act} {Q : Exit → Act → World → Prop} (hgd : o.guard = none) (s x : Operand) (t : TypeId) (ho : o.op = .call { callee := .builtin .copy, args := #[s, x], argTypes := #[t, t] })
    (v xv v' : Value) (w' : World) (hs : a.eval s = v) (hx : a.eval x = xv) (hr : (Builtin.copy_ #[t, t] o.type #[v, xv]).run P w = .ok v' w') (h : wpList P ops Q rest (a.put o.dst v') w') : wpList P ops Q (o :: rest) a w :=
  wpList_exec hgd (exec_copy ho hs hx hr) h

set_option maxRecDepth 100000 in
set_option maxHeartbeats 1000000 in
theorem repeat_any (b n M : Nat) (w : World) (hb : w.heap[b]? = some (.cells #[.int .u8 255] 5 (0, 0))) (h1 : 1 ≤ n) (hn : n ≤ 16384) (hM : (n ≤ 8192 ∧ M = n) ∨ (8192 < n ∧ M = 8192)) :
    Calls Try.prog 86 #[.slice (some ⟨b, 0, none⟩) 1 1, .int .i64 n] w fun e w' => ∃ A, e = .returned (.slice A n n) ∧ isSlice kU8 (fun k => w.heap.size ≤ k) w' (.slice A n n) (List.replicate n 255) ∧ Below w.heap.size w w' := by
  have e3 : IntKind.u64.wrap (n : Int) = n := Mul64.wrapN n (by omega)
  have e4 : IntKind.i64.wrap (n : Int) = n := IntWalk.i64_in _ (by omega)
  have f0 : ((n : Int) == 0) = false := beq_eq_false_iff_ne.2 (by omega)
  have hbl : b < w.heap.size := (Array.getElem?_eq_some_iff.1 hb).1
  obtain ⟨cs, hrunM, hle, hmax⟩ := Lib.run_makeNoZero (P := Try.prog) w #[3] 22 5 Try.underlying22 n (by omega)
  have hcall : (callFunc 134 #[.int .i64 (n : Int)]).run Try.prog w = .ok (.value (.slice (some ⟨w.heap.size, 0, none⟩) n cs.size)) ((w.alloc (.cells cs 5)).drewN 2) := by
    rw [run_callFunc_extern Try.func134 (by kernel_rfl) (by kernel_rfl) (by kernel_rfl) (e := Extern.BytealgMakeNoZero.makeNoZero #[3] #[22]) (by kernel_rfl), hrunM]
    rfl
  clear hrunM
  have i0 : (0 : Int) ≤ (n : Int) := by omega
  have i1 : (n : Int) ≤ (cs.size : Int) := by omega
  have B0 : RepSt w.heap.size w.heap.size 0 n ((w.alloc (.cells cs 5)).drewN 2) := ⟨⟨cs, World.alloc_heap_new w _, hle, fun j hj => absurd hj (Nat.not_lt_zero _)⟩, Nat.le_refl _⟩
  have hbw : Below w.heap.size w ((w.alloc (.cells cs 5)).drewN 2) := ((Below.refl _ w).alloc (Nat.le_refl _) _).drew.drew
  have hb1 : ((w.alloc (.cells cs 5)).drewN 2).cell? ⟨b, 0, none⟩ = some (.int .u8 255) := by
    rw [hbw.cell (p := ⟨b, 0, none⟩) hbl]; simp [World.cell?, hb]
  have hb2 : ∀ j, j < min 1 n → ((w.alloc (.cells cs 5)).drewN 2).cell? ⟨b, j, none⟩ = some (.int .u8 255) := by
    intro j hj
    obtain rfl : j = 0 := by omega
    exact hb1
  obtain ⟨W1, hr1, B1, hbw1⟩ := B0.copy 3 n n 1 1 b hb2 (by omega)
  rw [Nat.min_eq_left h1] at hr1 B1
  rw [Nat.zero_add] at B1
  have hbW : Below w.heap.size w W1 := hbw.trans hbw1
  clear B0 hbw hbw1 hb1 hb2
  rcases hM with ⟨hM, hMn⟩ | ⟨hM, rfl⟩
  · have hMn' := hMn.symm
    subst hMn'
    clear hMn
    have hM' : ¬ (8192 < (n : Int)) := by omega
    go_enter Try.func86, Try.ntmps86
    go_wp2_with (first | (go_at_call 133; refine (mul_any _ hn _).mono ?_; rintro e w' ⟨rfl, rfl⟩) | (at_builtin; refine wpList_copy_run rfl _ _ 22 rfl _ _ _ _ rfl rfl hr1 ?_))
    go_loopw [10] (fun v wr => ∃ p : Nat, 1 ≤ p ∧ p ≤ n ∧ v = .int .i64 p ∧ RepSt w.heap.size w.heap.size p n wr ∧ Below w.heap.size w wr) (fun v _ => n - (intOf v).toNat)
    case atStart => exact ⟨1, Nat.le_refl _, h1, rfl, B1, hbW⟩
    case round =>
      obtain ⟨p, hp1, hpn, rfl, hS, hbl2⟩ := hrel
      clear hr1 B1 hbW hcall
      by_cases hlt : p < n
      · have u1 : (p : Int) < (n : Int) := by omega
        have u3 : ((n : Int) - (p : Int)).toNat = n - p := by omega
        have u4 : (0 : Int) ≤ (p : Int) := by omega
        have u5 : (p : Int) ≤ (n : Int) := by omega
        have hS' : RepSt w.heap.size w.heap.size p n wr.drew := ⟨hS.lies, hS.ge⟩
        obtain ⟨cur, hg, hnc, hj⟩ := hS'.lies
        obtain ⟨W2, hr2, B2, hb2⟩ := hS'.copy 3 (n - p) (n - p) p n w.heap.size (fun j hj2 => by rw [cell_of_row _ _ _ _ _ _ hg]; exact hj j (by omega)) (by omega)
        clear hg hnc hj
        have u6 : IntKind.i64.wrap ((p : Int) + ((min p (n - p) : Nat) : Int)) = ((p + min p (n - p) : Nat) : Int) := by
          rw [← Int.natCast_add]; exact IntWalk.i64_in _ (by omega)
        have u7 : 1 ≤ min p (n - p) ∧ min p (n - p) ≤ n - p := by omega
        have hbl3 : Below w.heap.size w W2 := hbl2.trans ((Below.refl w.heap.size wr).drew.trans hb2)
        generalize min p (n - p) = q at *
        go_wp2
        all_goals
          go_region_held3 (fun _ => True) (trivial) (refine step_copy rfl _ _ 22 rfl _ _ _ _ rfl rfl hr2 ?_)
          simp only [Exit.inBlock]
          simp (zetaDelta := true) only [Exit.then]
          go_roundw
        all_goals first | exact ⟨p + q, by omega, by omega, by go_num, B2, hbl3⟩ | (simp [intOf]; omega)
      · obtain rfl : p = n := by omega
        go_wp2
        go_ret
        exact ⟨_, rfl, hS.slice p (Nat.le_refl _) (Nat.le_refl _), hbl2⟩
  · have hM' : 8192 < (n : Int) := by omega
    go_enter Try.func86, Try.ntmps86
    go_wp2_with (first | (go_at_call 133; refine (mul_any _ hn _).mono ?_; rintro e w' ⟨rfl, rfl⟩) | (at_builtin; refine wpList_copy_run rfl _ _ 22 rfl _ _ _ _ rfl rfl hr1 ?_))
    go_loopw [10] (fun v wr => ∃ p : Nat, 1 ≤ p ∧ p ≤ n ∧ v = .int .i64 p ∧ RepSt w.heap.size w.heap.size p n wr ∧ Below w.heap.size w wr) (fun v _ => n - (intOf v).toNat)
    case atStart => exact ⟨1, Nat.le_refl _, h1, rfl, B1, hbW⟩
    case round =>
      obtain ⟨p, hp1, hpn, rfl, hS, hbl2⟩ := hrel
      clear hr1 B1 hbW hcall
      by_cases hlt : p < n
      · rcases Nat.lt_or_ge 8192 p with hpM | hpM
        · have u1 : (p : Int) < (n : Int) := by omega
          have u3 : ((n : Int) - (p : Int)).toNat = n - p := by omega
          have u4 : (0 : Int) ≤ (p : Int) := by omega
          have u5 : (p : Int) ≤ (n : Int) := by omega
          have hS' : RepSt w.heap.size w.heap.size p n wr.drew := ⟨hS.lies, hS.ge⟩
          obtain ⟨cur, hg, hnc, hj⟩ := hS'.lies
          obtain ⟨W2, hr2, B2, hb2⟩ := hS'.copy 3 (n - p) (n - p) 8192 n w.heap.size (fun j hj2 => by rw [cell_of_row _ _ _ _ _ _ hg]; exact hj j (by omega)) (by omega)
          clear hg hnc hj
          have u6 : IntKind.i64.wrap ((p : Int) + ((min 8192 (n - p) : Nat) : Int)) = ((p + min 8192 (n - p) : Nat) : Int) := by
            rw [← Int.natCast_add]; exact IntWalk.i64_in _ (by omega)
          have u7 : 1 ≤ min 8192 (n - p) ∧ min 8192 (n - p) ≤ n - p := by omega
          have hbl3 : Below w.heap.size w W2 := hbl2.trans ((Below.refl w.heap.size wr).drew.trans hb2)
          have u8 : (8192 : Int) < (p : Int) := by omega
          have u9 : (8192 : Int) ≤ (n : Int) := by omega
          generalize min 8192 (n - p) = q at *
          go_wp2
          all_goals
            go_region_held3 (fun _ => True) (trivial) (refine step_copy rfl _ _ 22 rfl _ _ _ _ rfl rfl hr2 ?_)
            simp only [Exit.inBlock]
            simp (zetaDelta := true) only [Exit.then]
            go_roundw
          all_goals first | exact ⟨p + q, by omega, by omega, by go_num, B2, hbl3⟩ | (simp [intOf]; omega)
        · have u1 : (p : Int) < (n : Int) := by omega
          have u3 : ((n : Int) - (p : Int)).toNat = n - p := by omega
          have u4 : (0 : Int) ≤ (p : Int) := by omega
          have u5 : (p : Int) ≤ (n : Int) := by omega
          have hS' : RepSt w.heap.size w.heap.size p n wr.drew := ⟨hS.lies, hS.ge⟩
          obtain ⟨cur, hg, hnc, hj⟩ := hS'.lies
          obtain ⟨W2, hr2, B2, hb2⟩ := hS'.copy 3 (n - p) (n - p) p n w.heap.size (fun j hj2 => by rw [cell_of_row _ _ _ _ _ _ hg]; exact hj j (by omega)) (by omega)
          clear hg hnc hj
          have u6 : IntKind.i64.wrap ((p : Int) + ((min p (n - p) : Nat) : Int)) = ((p + min p (n - p) : Nat) : Int) := by
            rw [← Int.natCast_add]; exact IntWalk.i64_in _ (by omega)
          have u7 : 1 ≤ min p (n - p) ∧ min p (n - p) ≤ n - p := by omega
          have hbl3 : Below w.heap.size w W2 := hbl2.trans ((Below.refl w.heap.size wr).drew.trans hb2)
          have u8 : (p : Int) ≤ 8192 := by omega
          generalize min p (n - p) = q at *
          go_wp2
          all_goals
            go_region_held3 (fun _ => True) (trivial) (refine step_copy rfl _ _ 22 rfl _ _ _ _ rfl rfl hr2 ?_)
            simp only [Exit.inBlock]
            simp (zetaDelta := true) only [Exit.then]
            go_roundw
          all_goals first | exact ⟨p + q, by omega, by omega, by go_num, B2, hbl3⟩ | (simp [intOf]; omega)
      · obtain rfl : p = n := by omega
        go_wp2
        go_ret
        exact ⟨_, rfl, hS.slice p (Nat.le_refl _) (Nat.le_refl _), hbl2⟩
end Go.Proofs.Ytdoehnnhbfmleaa
