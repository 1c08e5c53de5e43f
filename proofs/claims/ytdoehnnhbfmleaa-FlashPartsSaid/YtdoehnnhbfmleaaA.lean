/-
  append, make and copy at rows of one's own, in the words of kinds: as runs, and as steps of a walk.
-/
import Derived.OwnWalkIn
import Derived.Laws.CopyOwn
import Derived.Laws.MakeOwn
import Derived.Laws.OwnMore
import Derived.Deep.AppendLies
import Derived.Test.YtdoehnnhbfmleaaM
namespace Go.Proofs.Ytdoehnnhbfmleaa
open Go Go.RowKit

/-- What the table of types says of an element type. -/
structure ElemOf (P : Program) (t e : TypeId) (z : Value) (size bytes : Nat) : Prop where
  ty : P.underlying t = some (.slice e)
  info : ∃ i, P.info? e = some i ∧ i.zero = some z ∧ i.size = size ∧ i.bytes = bytes
  zs : z.cells.size = size
  pos : 0 < size

theorem run_append_none {P : Program} (w : World) {t e ty : TypeId} {z : Value} {size bytes : Nat} (E : ElemOf P t e z size bytes) (A : Option Addr) (n c : Nat) (hnc : n ≤ c) (c' : Nat) :
    (Builtin.append_ #[t, t] ty #[.slice A n c, .slice none 0 c']).run P w = .ok (.slice A n c) w := by
  obtain ⟨i, hi, hz, hs, hb⟩ := E.info
  cases A with
  | none => simp [Builtin.append_, run_underlying E.ty, sizeOf, typeInfo, hi, Builtin.lenOf, Builtin.firstCells, hnc]
  | some a => simp [Builtin.append_, run_underlying E.ty, sizeOf, typeInfo, hi, Builtin.lenOf, Builtin.firstCells, hnc, storeCells]

/-- append(own row, slice...). -/
theorem run_append_K {α : Type} {P : Program} (w : World) {t e ty : TypeId} {z : Value} {bytes : Nat} {d : Kind α} (E : ElemOf P t e z d.sz bytes) {ok : Ok} {base : Nat} {v xv : Value} {xs ys : List α}
    (ho : isOwn d e ok base w v xs) (hy : isSlice d ok w xv ys) (hne : ∀ k, v.ownBlock = some k → ¬ ok k)
    (b1 : xs.length + ys.length ≤ maxLen) (b2 : (xs.length + ys.length) * bytes ≤ 140737488355328) (hbase : base ≤ w.heap.size) :
    ∃ A c w', (Builtin.append_ #[t, t] ty #[v, xv]).run P w = .ok (.slice A (xs ++ ys).length c) w' ∧ isOwn d e ok base w' (.slice A (xs ++ ys).length c) (xs ++ ys) ∧ w.grownBy w' v.ownBlock ∧
      (∀ k, (Value.slice A (xs ++ ys).length c).ownBlock = some k → v.ownBlock = some k ∨ w.heap.size ≤ k) := by
  obtain ⟨css, how, hd⟩ := ho
  obtain ⟨A2, c2, css2, rfl, hc2, hr2, hd2⟩ := hy
  have hl := hd.lens
  have hl2 := hd2.lens
  obtain ⟨i, hi, hz, hs, hb⟩ := E.info
  have hpos := E.pos
  have fin : ∀ (v' : Value) (w' : World), w'.ownsRow base e d.sz v' (xs.length + ys.length) (css.flatten ++ css2.flatten) → w.grownBy w' v.ownBlock →
      isOwn d e ok base w' v' (xs ++ ys) := fun v' w' ho' hg' => by
    have ha : Agree ok w w' := Agree.grownBy hg' (fun k hk => hne k hk)
    refine ⟨css ++ css2, ?_, (hd.agree ha).append (hd2.agree ha)⟩
    rw [List.flatten_append, List.length_append]
    exact ho'
  have form : ∀ (v' : Value) (w' : World), isOwn d e ok base w' v' (xs ++ ys) → ∃ A c, v' = .slice A (xs ++ ys).length c := fun v' w' h => by
    obtain ⟨A, c, _, h, _⟩ := h.row
    exact ⟨A, c, h⟩
  cases A2 with
  | none =>
    have hy0 : ys = [] := by
      rcases hr2 with hr2 | ⟨b, o, hA, _⟩
      · have := flatten_length hl2
        rw [hr2, hd2.1] at this
        simp only [List.length_nil] at this
        cases ys with
        | nil => rfl
        | cons y ys => simp only [List.length_cons] at this; exact absurd this.symm (Nat.ne_of_gt (Nat.mul_pos (Nat.succ_pos _) hpos))
      · cases hA
    subst hy0
    obtain ⟨A, c, css', rfl, hc, hr', hd'⟩ := (show isOwn d e ok base w v xs from ⟨css, how, hd⟩).row
    have hrun := run_append_none (P := P) (ty := ty) w E A xs.length c hc c2
    refine ⟨A, c, w, by simpa using hrun, ?_, ⟨rfl, rfl, rfl, Nat.le_refl _, fun _ _ _ => rfl⟩, ?_⟩
    · simpa using (show isOwn d e ok base w (.slice A xs.length c) xs from ⟨css, how, hd⟩)
    · intro k hk
      exact .inl (by rw [← hk]; simp [Value.ownBlock])
  | some ad =>
    have hnews : ∀ (j : Nat) (u : Value), css2.flatten[j]? = some u → w.cell? (ad.add j) = some u := by
      intro j u hu
      rcases hr2 with hr2 | ⟨b, o, hA, _, hcell⟩
      · rw [hr2] at hu; simp at hu
      · cases hA
        have := hcell j u hu
        rw [show (⟨b, o, none⟩ : Addr).add j = ⟨b, o + j, none⟩ from by unfold Addr.add; split <;> simp_all]
        exact this
    obtain ⟨v', w', hrun, ho', hg', _, h5⟩ := run_append_own_at (P := P) w base t ty e i z d.sz bytes E.ty hi hz hs hb E.zs hpos v xs.length css.flatten how ad ys.length c2 css2.flatten
      (by rw [flatten_length hl2, hd2.1]) hnews hd2.ones b1 b2 hbase
    have hown := fin v' w' ho' hg'
    obtain ⟨A, c, hv'⟩ := form v' w' hown
    subst hv'
    refine ⟨A, c, w', hrun, hown, hg', fun k hk => ?_⟩
    rcases h5 with h5 | h5
    · exact .inl (by rw [← h5]; exact hk)
    · right
      rw [hk] at h5
      have : k = w.heap.size := by simpa using h5
      omega

/-! ### steps of a walk -/
section
variable {P : Program} {w : World} {ops : Array Oper} {rest : List Oper} {o : Oper} {a : Act} {Q : Exit → Act → World → Prop} {F : Fence} {n : Nat}

theorem wpList_exec {v : Value} {w' : World} (hg : o.guard = none) (hr : (execOp a.eval o).run P w = .ok (.value v) w') (h : wpList P ops Q rest (a.put o.dst v) w') : wpList P ops Q (o :: rest) a w :=
  wpList_plain hg fun K hK => by unfold Oper.wp; rw [hr]; exact hK _ _ h

theorem wpListIn_exec {v : Value} {w' : World} (hg : o.guard = none) (hd : ∀ c, o.op ≠ .defer c) (hab : ∀ f, o.about P w a.eval = some f → F.fn f) (hr : (execOp a.eval o).run P w = .ok (.value v) w') (h : wpListIn F n P ops Q rest (a.put o.dst v) w') : wpListIn F n P ops Q (o :: rest) a w :=
  wpListIn_plain hg fun K hK => by
    unfold Oper.wpIn
    refine ⟨hab, ?_⟩
    rw [Oper.semAt_plain F _ _ hd, hr]
    exact hK _ _ h

theorem exec_append {s x : Operand} {t ty : TypeId} {v xv v' : Value} {w' : World} (ho : o.op = .call { callee := .builtin .append, args := #[s, x], argTypes := #[t, t] }) (hs : a.eval s = v) (hx : a.eval x = xv) (hty : o.type = ty)
    (hr : (Builtin.append_ #[t, t] ty #[v, xv]).run P w = .ok v' w') : (execOp a.eval o).run P w = .ok (.value v') w' := by
  subst hty
  unfold execOp
  simp only [ho, resolve, invoke, builtin, Sem.run_bind, Sem.run_pure, Result.andThen_ok, List.map_toArray, List.map_cons, List.map_nil, hs, hx, hr]

theorem about_append {s x : Operand} {t : TypeId} (ho : o.op = .call { callee := .builtin .append, args := #[s, x], argTypes := #[t, t] }) : ∀ f, o.about P w a.eval = some f → F.fn f := by
  simp [Oper.about, ho, resolve, Target.leads, Sem.run_pure]

theorem wpList_append_K {α : Type} {d : Kind α} {t e : TypeId} {z : Value} {bytes : Nat} (hgd : o.guard = none) (s x : Operand) (ho : o.op = .call { callee := .builtin .append, args := #[s, x], argTypes := #[t, t] })
    (E : ElemOf P t e z d.sz bytes) (ok : Ok) (base : Nat) (v xv : Value) (xs ys : List α) (hs : a.eval s = v) (hx : a.eval x = xv)
    (hown : isOwn d e ok base w v xs) (hy : isSlice d ok w xv ys) (hne : ∀ k, v.ownBlock = some k → ¬ ok k)
    (b1 : xs.length + ys.length ≤ maxLen) (b2 : (xs.length + ys.length) * bytes ≤ 140737488355328) (hbase : base ≤ w.heap.size)
    (h : ∀ A c w', isOwn d e ok base w' (.slice A (xs ++ ys).length c) (xs ++ ys) → w.grownBy w' v.ownBlock → (∀ k, (Value.slice A (xs ++ ys).length c).ownBlock = some k → v.ownBlock = some k ∨ w.heap.size ≤ k) →
      wpList P ops Q rest (a.put o.dst (.slice A (xs ++ ys).length c)) w') : wpList P ops Q (o :: rest) a w := by
  obtain ⟨A, c, w', hr, h1, h2, h3⟩ := run_append_K (P := P) (ty := o.type) w E hown hy hne b1 b2 hbase
  exact wpList_exec hgd (exec_append ho hs hx rfl hr) (h A c w' h1 h2 h3)

theorem wpListIn_append_K {α : Type} {d : Kind α} {t e : TypeId} {z : Value} {bytes : Nat} (hgd : o.guard = none) (s x : Operand) (ho : o.op = .call { callee := .builtin .append, args := #[s, x], argTypes := #[t, t] })
    (E : ElemOf P t e z d.sz bytes) (ok : Ok) (base : Nat) (v xv : Value) (xs ys : List α) (hs : a.eval s = v) (hx : a.eval x = xv)
    (hown : isOwn d e ok base w v xs) (hy : isSlice d ok w xv ys) (hne : ∀ k, v.ownBlock = some k → ¬ ok k)
    (b1 : xs.length + ys.length ≤ maxLen) (b2 : (xs.length + ys.length) * bytes ≤ 140737488355328) (hbase : base ≤ w.heap.size)
    (h : ∀ A c w', isOwn d e ok base w' (.slice A (xs ++ ys).length c) (xs ++ ys) → w.grownBy w' v.ownBlock → (∀ k, (Value.slice A (xs ++ ys).length c).ownBlock = some k → v.ownBlock = some k ∨ w.heap.size ≤ k) →
      wpListIn F n P ops Q rest (a.put o.dst (.slice A (xs ++ ys).length c)) w') : wpListIn F n P ops Q (o :: rest) a w := by
  obtain ⟨A, c, w', hr, h1, h2, h3⟩ := run_append_K (P := P) (ty := o.type) w E hown hy hne b1 b2 hbase
  exact wpListIn_exec hgd (by rw [ho]; intro c hc; cases hc) (about_append ho) (exec_append ho hs hx rfl hr) (h A c w' h1 h2 h3)
end

/-! ### copy onto a row of bytes that is known whole -/
def spliceB (cur xs : List UInt8) (o m : Nat) : List UInt8 := cur.take o ++ xs.take m ++ cur.drop (o + m)
theorem spliceB_length (cur xs : List UInt8) (o m : Nat) (h1 : m ≤ xs.length) (h2 : o + m ≤ cur.length) : (spliceB cur xs o m).length = cur.length := by simp [spliceB]; omega
theorem spliceB_all (cur xs : List UInt8) (h : xs.length = cur.length) : spliceB cur xs 0 xs.length = xs := by simp [spliceB, h, List.take_of_length_le (Nat.le_of_eq h)]

theorem run_copy_bytes {P : Program} (w : World) {t ty : TypeId} {z : Value} {bytes : Nat} (E : ElemOf P t 5 z kU8.sz bytes) {ok : Ok} {g o dl dc : Nat} {cur xs : List UInt8} {xv : Value}
    (hg : w.heap[g]? = some (.cells (cur.map encB).toArray 5 (0, 0))) (hfit : o + min xs.length dl ≤ cur.length) (hx : isSlice kU8 ok w xv xs) :
    (Builtin.copy_ #[t, t] ty #[.slice (some ⟨g, o, none⟩) dl dc, xv]).run P w = .ok (.int .i64 (min xs.length dl : Nat)) (w.setRow g ((spliceB cur xs o (min xs.length dl)).map encB).toArray) := by
  obtain ⟨i, hi, hz, hs, hb⟩ := E.info
  obtain ⟨A, c, css, rfl, hc, hr, hd⟩ := hx
  have hcss := reads_bytes_eq hd
  subst hcss
  rw [flatten_bytes] at hr
  have hs1 : (P.info? 5).map (·.size) = some 1 := by rw [hi]; simpa [kU8, Kind.scalar] using hs
  cases A with
  | none =>
    have h0 : xs = [] := by
      rcases hr with hr | ⟨b, o, hA, _⟩
      · simpa using hr
      · cases hA
    subst h0
    have hself : w.setRow g ((spliceB cur [] o (min ([] : List UInt8).length dl)).map encB).toArray = w := by
      have e : spliceB cur [] o (min ([] : List UInt8).length dl) = cur := by simp [spliceB]
      rw [e]
      exact setRow_self w g _ 5 (0, 0) hg
    rw [hself]
    simp [Builtin.copy_, run_underlying E.ty, Builtin.lenOf, Builtin.firstCells, sizeOf, typeInfo, hi, storeCells, goInt]
  | some a =>
    have hsrc : ∀ (j : Nat) (v : Value), ((xs.take (min xs.length dl)).map encB)[j]? = some v → w.cell? (a.add j) = some v := by
      intro j v hv
      rcases hr with hr | ⟨b, o, hA, _, hcell⟩
      · have : xs = [] := by simpa using hr
        subst this
        simp at hv
      · cases hA
        have hv' : (xs.map encB)[j]? = some v := by
          rw [List.map_take, List.getElem?_take] at hv
          split at hv
          · exact hv
          · cases hv
        have := hcell j v hv'
        rw [show (⟨b, o, none⟩ : Addr).add j = ⟨b, o + j, none⟩ from by unfold Addr.add; split <;> simp_all]
        exact this
    have hrun := run_copy_row (P := P) w t t ty 5 g o dl dc a xs.length c (cur.map encB).toArray 5 ((xs.take (min xs.length dl)).map encB) E.ty hs1 hg
      (by rw [List.length_map, List.length_take]; show min (min xs.length dl) xs.length = min xs.length dl; omega) hsrc (by simp; omega) (by intro v hv; obtain ⟨x, _, rfl⟩ := List.mem_map.1 hv; rfl)
    rw [hrun]
    simp only [List.length_map, List.length_take, goInt]
    have e : min (min xs.length dl) xs.length = min xs.length dl := by omega
    rw [e]
    congr 2
    simp [spliceB, List.map_append, List.map_take, List.map_drop, List.append_assoc]

end Go.Proofs.Ytdoehnnhbfmleaa
