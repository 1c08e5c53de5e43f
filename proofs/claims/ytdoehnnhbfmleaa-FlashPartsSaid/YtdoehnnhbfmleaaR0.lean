/-
  append at a step of a drawn region.
-/
import Derived.Test.YtdoehnnhbfmleaaA
import Derived.RegionTactic
namespace Go.Proofs.Ytdoehnnhbfmleaa
open Go Go.RowKit

section
variable {P : Program} {w : World} {ops : Array Oper} {o : Oper} {a : Act} {Q : Exit → Act → World → Prop} {F : Fence} {n : Nat}

theorem wp_exec {v : Value} {w' : World} {K : Act → World → Prop} (hr : (execOp a.eval o).run P w = .ok (.value v) w') (h : K (a.put o.dst v) w') : Oper.wp P o a w K Q := by
  unfold Oper.wp; rw [hr]; exact h

theorem step_append_K {α : Type} {d : Kind α} {t e : TypeId} {z : Value} {bytes : Nat} {K : Act → World → Prop} {E0 : Prop} (hgd : o.guard = none) (s x : Operand) (ho : o.op = .call { callee := .builtin .append, args := #[s, x], argTypes := #[t, t] })
    (E : ElemOf P t e z d.sz bytes) (ok : Ok) (base : Nat) (v xv : Value) (xs ys : List α) (hs : a.eval s = v) (hx : a.eval x = xv)
    (hown : isOwn d e ok base w v xs) (hy : isSlice d ok w xv ys) (hne : ∀ k, v.ownBlock = some k → ¬ ok k)
    (b1 : xs.length + ys.length ≤ maxLen) (b2 : (xs.length + ys.length) * bytes ≤ 140737488355328) (hbase : base ≤ w.heap.size)
    (h : ∀ A c w', isOwn d e ok base w' (.slice A (xs ++ ys).length c) (xs ++ ys) → w.grownBy w' v.ownBlock → (∀ k, (Value.slice A (xs ++ ys).length c).ownBlock = some k → v.ownBlock = some k ∨ w.heap.size ≤ k) →
      K (a.put o.dst (.slice A (xs ++ ys).length c)) w') : if Region.wanted o (yielded ops a.tmps) = true then Oper.wp P o a w K Q else E0 := by
  have hw : Region.wanted o (yielded ops a.tmps) = true := by simp [Region.wanted, hgd]
  rw [if_pos hw]
  obtain ⟨A, c, w', hr, h1, h2, h3⟩ := run_append_K (P := P) (ty := o.type) w E hown hy hne b1 b2 hbase
  exact wp_exec (exec_append ho hs hx rfl hr) (h A c w' h1 h2 h3)

/-- append leaves what stood in the old row. -/
theorem append_keeps {α : Type} {d : Kind α} {t e ty : TypeId} {z : Value} {bytes : Nat} (E : ElemOf P t e z d.sz bytes) {ok : Ok} {base : Nat} {A : Option Addr} {c : Nat} {xv v' : Value} {w' : World} {xs ys : List α}
    (ho : isOwn d e ok base w (.slice A xs.length c) xs) (hy : isSlice d ok w xv ys) (b1 : xs.length + ys.length ≤ maxLen) (b2 : (xs.length + ys.length) * bytes ≤ 140737488355328)
    (hr : (Builtin.append_ #[t, t] ty #[.slice A xs.length c, xv]).run P w = .ok v' w') {g o : Nat} (hA : A = some ⟨g, o, none⟩) (j : Nat) (u : Value) (hj : j < xs.length * d.sz) (hu : w.cell? ⟨g, j, none⟩ = some u) : w'.cell? ⟨g, j, none⟩ = some u := by
  obtain ⟨css, how, hd⟩ := ho
  obtain ⟨A2, c2, css2, rfl, hc2, hr2, hd2⟩ := hy
  obtain ⟨i, hi, hz, hs, hb⟩ := E.info
  subst hA
  rcases how.2 with ⟨h, _⟩ | ⟨g', cap, cur, h, hg, hh, hnc, hcm, hcs, htake⟩
  · cases h
  · cases h
    have hlt : g < w.heap.size := (Array.getElem?_eq_some_iff.1 hh).1
    cases A2 with
    | none =>
      have hy0 : ys.length = 0 := by
        rcases hr2 with hr2 | ⟨b, o, hA, _⟩
        · have := flatten_length hd2.lens
          rw [hr2, hd2.1] at this
          simp only [List.length_nil] at this
          exact (Nat.mul_eq_zero.1 this.symm).resolve_right (by have := E.pos; omega)
        · cases hA
      rw [hy0, run_append_none (P := P) (ty := ty) w E (some ⟨g, 0, none⟩) xs.length c hnc c2] at hr
      cases hr
      exact hu
    | some ad =>
      have hl2 := flatten_length hd2.lens
      have hnews : ∀ (j : Nat) (u : Value), css2.flatten[j]? = some u → w.cell? (ad.add j) = some u := by
        intro j u hu
        rcases hr2 with hr2 | ⟨b, o, hA, _, hcell⟩
        · rw [hr2] at hu; simp at hu
        · cases hA
          have := hcell j u hu
          rw [show (⟨b, o, none⟩ : Addr).add j = ⟨b, o + j, none⟩ from by unfold Addr.add; split <;> simp_all]
          exact this
      rw [hd2.1] at hl2
      by_cases hroom : xs.length + ys.length ≤ c
      · have hfit : xs.length * i.size + css2.flatten.length ≤ cur.size := by rw [hl2, hcs, hs, ← Nat.add_mul]; exact Nat.mul_le_mul_right _ hroom
        rw [run_append_room (P := P) w t ty e i E.ty hi g xs.length c cur hh ad ys.length c2 css2.flatten (by rw [hs]; exact hl2) hnews hd2.ones hroom hfit] at hr
        cases hr
        have hcu : cur[j]? = some u := by rw [cell_of_row w g j cur e (0, 0) hh] at hu; exact hu
        have hrow := setRow_heap w g cur (cur.toList.take (xs.length * i.size) ++ css2.flatten ++ cur.toList.drop (xs.length * i.size + css2.flatten.length)).toArray e (0, 0) hh
        rw [cell_of_row _ g j _ e (0, 0) hrow]
        have hjs : j < cur.size := (Array.getElem?_eq_some_iff.1 hcu).1
        rw [List.getElem?_toArray, List.append_assoc, List.getElem?_append_left (by simp; rw [hs]; omega), List.getElem?_take, if_pos (by rw [hs]; exact hj)]
        simpa using hcu
      · have holds : ∀ j u, css.flatten[j]? = some u → w.cell? ((⟨g, 0, none⟩ : Addr).add j) = some u := how.cells (g := g) rfl
        rw [run_append_grow (P := P) w t ty e i z E.ty hi hz ⟨g, 0, none⟩ xs.length c css.flatten (by rw [hs]; exact how.1) holds ad ys.length c2 css2.flatten (by rw [hs]; exact hl2) hnews (by omega) (by unfold maxLen at b1; omega) (growslice_fits (by omega) (by rw [hb]; exact b2))] at hr
        cases hr
        exact (World.cell?_alloc_past (w := w.drew) _ _ _ hlt).trans hu

theorem step_append_keeps {α : Type} {d : Kind α} {t e : TypeId} {z : Value} {bytes : Nat} {K : Act → World → Prop} {E0 : Prop} (hgd : o.guard = none) (s x : Operand) (ho : o.op = .call { callee := .builtin .append, args := #[s, x], argTypes := #[t, t] })
    (E : ElemOf P t e z d.sz bytes) (ok : Ok) (base : Nat) (A : Option Addr) (c0 : Nat) (xv : Value) (xs ys : List α) (m : Nat) (hm : xs.length = m) (hs : a.eval s = .slice A m c0) (hx : a.eval x = xv)
    (hown : isOwn d e ok base w (.slice A m c0) xs) (hy : isSlice d ok w xv ys) (hne : ∀ k, (Value.slice A m c0).ownBlock = some k → ¬ ok k)
    (b1 : xs.length + ys.length ≤ maxLen) (b2 : (xs.length + ys.length) * bytes ≤ 140737488355328) (hbase : base ≤ w.heap.size)
    (h : ∀ A' c w', isOwn d e ok base w' (.slice A' (xs ++ ys).length c) (xs ++ ys) → w.grownBy w' (Value.slice A m c0).ownBlock → (∀ k, (Value.slice A' (xs ++ ys).length c).ownBlock = some k → (Value.slice A m c0).ownBlock = some k ∨ w.heap.size ≤ k) →
      (∀ g o, A = some ⟨g, o, none⟩ → ∀ j u, j < m * d.sz → w.cell? ⟨g, j, none⟩ = some u → w'.cell? ⟨g, j, none⟩ = some u) →
      K (a.put o.dst (.slice A' (xs ++ ys).length c)) w') : if Region.wanted o (yielded ops a.tmps) = true then Oper.wp P o a w K Q else E0 := by
  subst hm
  have hw : Region.wanted o (yielded ops a.tmps) = true := by simp [Region.wanted, hgd]
  rw [if_pos hw]
  obtain ⟨A', c', w', hr, h1, h2, h3⟩ := run_append_K (P := P) (ty := o.type) w E hown hy hne b1 b2 hbase
  exact wp_exec (exec_append ho hs hx rfl hr) (h A' c' w' h1 h2 h3 (fun g o hA j u hj hu => append_keeps E hown hy b1 b2 hr hA j u hj hu))

/-- a row of bytes of length 0 that has just been laid. -/
theorem own_empty {W : World} {base g : Nat} (ok : Ok) (hb : base ≤ g) (hg : W.heap[g]? = some (.cells #[] 5 (0, 0))) : isOwn kU8 5 ok base W (.slice (some ⟨g, 0, none⟩) 0 0) [] :=
  ⟨[], ⟨rfl, .inr ⟨g, 0, #[], rfl, hb, hg, Nat.le_refl _, by unfold maxLen; omega, by simp, rfl⟩⟩, Reads.nil _ _ _⟩
end
end Go.Proofs.Ytdoehnnhbfmleaa
