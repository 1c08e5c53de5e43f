/-
  Walks of package flash: the functions that are called by its steps.
-/
import Derived.Test.YtdoehnnhbfmleaaProg
import Derived.WalkKit
import Derived.WalkSpells
import Derived.Outline
import Derived.OwnWalk
import Derived.Laws.BitsAllLaws
import Derived.Test.YtdoehnnhbfmleaaA
import Derived.Test.YtdoehnnhbfmleaaFl
namespace Go.Proofs.Ytdoehnnhbfmleaa
open Go Go.RowKit

theorem elem22 : ElemOf Try.prog 22 5 (.int .u8 0) kU8.sz 1 where
  ty := Try.underlying22
  info := by
    have h : (Try.prog.info? 5).map (fun i => (i.zero, i.size, i.bytes)) = some (some (.int .u8 0), 1, 1) := by kernel_rfl
    obtain ⟨i0, hi, hz0, hz1, hz2⟩ := info_parts h
    exact ⟨i0, hi, hz0, hz1, hz2⟩
  zs := rfl
  pos := by decide

/-- New blocks only. -/
def fresh (w : World) : Ok := fun k => w.heap.size ≤ k

set_option maxRecDepth 100000 in
theorem clone_any (ok : Ok) (A : Option Addr) (n c : Nat) (xs : List UInt8) (w : World) (h : isSlice kU8 ok w (.slice A n c) xs) (hn : xs.length ≤ 140737488355328) :
    Calls Try.prog 111 #[.slice A n c] w fun e w' => ∃ A' c', e = .returned (.slice A' xs.length c') ∧ isSlice kU8 (fun k => w.heap.size ≤ k) w' (.slice A' xs.length c') xs ∧ Below w.heap.size w w' := by
  have hq := fun (W : World) (a : Option Addr) (n c : Nat) => Lib.run_eql_slice_nil (P := Try.prog) W 22 5 a n c 0 0 Try.underlying22
  have hm : xs.length ≤ maxLen := by unfold maxLen; omega
  cases A with
  | none =>
    have h0 : xs = [] := by
      obtain ⟨A, c', css, hv, hc, hr, hd⟩ := h
      cases hv
      cases xs with
      | nil => rfl
      | cons x xs =>
        rcases hr with hr | ⟨b, o, hA, _⟩
        · have := flatten_length hd.lens
          rw [hr, hd.1] at this
          simp [kU8, Kind.scalar] at this
        · cases hA
    subst h0
    go_enter Try.func111, Try.ntmps111
    go_wp2
    go_ret
    exact ⟨none, 0, rfl, isSlice.nil _ _ _ _ _, Below.refl _ _⟩
  | some a =>
    have hok : isSlice kU8 (fun k => k < w.heap.size) (w.alloc (.cells #[] 5)) (.slice (some a) n c) xs := (h.bounded (fun k _ hk => hk)).agree (Agree.alloc _ _ _)
    have hown : isOwn kU8 5 (fun k => k < w.heap.size) w.heap.size (w.alloc (.cells #[] 5)) (.slice (some ⟨w.heap.size, 0, none⟩) 0 0) [] :=
      ⟨[], World.ownsRow_made (base := w.heap.size) (e := 5) (size := kU8.sz) w #[] 0 (Nat.le_refl _) (by decide) (by simp), Reads.nil _ _ _⟩
    have c1 : ∀ k, (Value.slice (some ⟨w.heap.size, 0, none⟩) 0 0).ownBlock = some k → ¬ k < w.heap.size := by intro k hk; simp [Value.ownBlock] at hk; omega
    have c2 : ([] : List UInt8).length + xs.length ≤ maxLen := by simpa using hm
    have c3 : (([] : List UInt8).length + xs.length) * 1 ≤ 140737488355328 := by simpa using hn
    have c4 : w.heap.size ≤ (w.alloc (.cells #[] 5)).heap.size := by simp
    go_enter Try.func111, Try.ntmps111
    go_wp2_with (at_builtin; refine wpList_append_K rfl _ _ rfl elem22 _ w.heap.size (.slice (some ⟨w.heap.size, 0, none⟩) 0 0) (.slice (some a) n c) [] xs rfl rfl hown hok c1 c2 c3 c4 ?_; intro A' c' w' ho hg hb)
    go_ret
    refine ⟨A', c', rfl, ho.slice_flat flat_u8 (fun k hk => (ho.lt k hk).1), ?_⟩
    exact ((Below.refl _ _).alloc (Nat.le_refl _) _).grown hg (by simp) (fun k hk => by simp [Value.ownBlock] at hk; omega)

/-- 'func(i int, old byte) byte { return old & data[i] }' -/
theorem and_any (ok : Ok) (pd : Nat) (A : Option Addr) (n c : Nat) (data : List UInt8) (i : Nat) (old : UInt8) (w : World) (hi : i < data.length) (hn : data.length ≤ 140737488355328)
    (hp : w.cell? ⟨pd, 0, none⟩ = some (.slice A n c)) (hd : isSlice kU8 ok w (.slice A n c) data) :
    Calls Try.prog 87 #[.int .i64 i, .int .u8 old.toNat, .pointer (some ⟨pd, 0, none⟩)] w fun e w' => e = .returned (.int .u8 (old &&& data[i]).toNat) ∧ w = w' := by
  obtain ⟨A', c', hv, hc⟩ := hd.form
  cases hv
  obtain ⟨b, o, rfl, hb, hlt, hcell⟩ := bytes_open hd (by omega)
  have hci := hcell i hi
  go_enter Try.func87, Try.ntmps87
  go_wp2
  go_ret
  refine ⟨?_, rfl⟩
  have := u8_and_nat old.toNat data[i].toNat (UInt8.toNat_lt old) (UInt8.toNat_lt _)
  simp [this]

theorem ff_any (i : Int) (old : Int) (w : World) :
    Calls Try.prog 91 #[.int .i64 i, .int .u8 old] w fun e w' => e = .returned (.int .u8 255) ∧ w = w' := by
  go_enter Try.func91, Try.ntmps91
  go_wp2
  go_ret
  exact ⟨rfl, rfl⟩

/-- 'steps' boxes what it is given. -/
theorem steps_any (fv : Value) (at_ many : Int) (become : Value) (w : World) (h : ∃ s b, fv = .agg #[s, b]) (hb : ∃ f x y, become = .func f x y) :
    Calls Try.prog 89 #[fv, .int .i64 at_, .int .i64 many, become] w fun e w' => e = .returned (.func (.func 135) #[] #[.pointer (some ⟨w.heap.size, 0, none⟩), .pointer (some ⟨w.heap.size + 2, 0, none⟩), .pointer (some ⟨w.heap.size + 3, 0, none⟩), .pointer (some ⟨w.heap.size + 1, 0, none⟩)]) ∧
      w' = (((w.alloc (.cells fv.cells 24)).alloc (.cells #[.int .i64 at_] 3)).alloc (.cells #[.int .i64 many] 3)).alloc (.cells #[become] 102) := by
  obtain ⟨s, b, rfl⟩ := h
  obtain ⟨f, x, y, rfl⟩ := hb
  have hmf : ∀ (fn : Fn) (first cap : Array Value) (w : World), (Instr.makeFunc fn first cap).run Try.prog w = .ok (.func fn first cap) w := fun _ _ _ _ => rfl
  go_enter Try.func89, Try.ntmps89
  go_wp2
  go_ret
  exact ⟨rfl, rfl⟩

end Go.Proofs.Ytdoehnnhbfmleaa
