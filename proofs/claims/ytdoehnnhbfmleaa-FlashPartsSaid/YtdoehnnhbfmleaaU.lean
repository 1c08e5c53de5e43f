/- What programs and erasures do to memories, as plain data. -/
import Derived.Test.YtdoehnnhbfmleaaL0
namespace Go.Proofs.Ytdoehnnhbfmleaa

theorem program_cases (f : Fl) (s : Int) (data : List UInt8) :
    (∃ e : Int, (e = 1 ∨ e = 3) ∧ program f s data = ([], e)) ∨
    (valid f = true ∧ 0 ≤ s ∧ s + data.length ≤ f.bytes.length ∧ program f s data = (steps f s.toNat data.length (andWith data), 0)) := by
  unfold program
  split
  · exact .inl ⟨1, .inl rfl, rfl⟩
  · rename_i h
    obtain ⟨hv, h0⟩ := not_or.1 h
    split
    · exact .inl ⟨3, .inr rfl, rfl⟩
    · rename_i h2
      obtain ⟨h3, h4⟩ := not_or.1 h2
      exact .inr ⟨by simpa using hv, by omega, by omega, rfl⟩

theorem program_fits {f : Fl} {s : Int} {data : List UInt8} (hv : valid f = true) (h0 : 0 ≤ s) (h1 : s + data.length ≤ f.bytes.length) :
    program f s data = (steps f s.toNat data.length (andWith data), 0) := by
  unfold program
  rw [if_neg (fun h => h.elim (fun e => by rw [hv] at e; cases e) (fun e => by omega)), if_neg (by omega)]

theorem erase_cases (f : Fl) (q : Int) :
    erase f q = ([], 1) ∨
    (valid f = true ∧ 0 ≤ q ∧ q * f.sector + f.sector ≤ f.bytes.length ∧ erase f q = (steps f (q * f.sector).toNat f.sector.toNat toFF, 0)) := by
  unfold erase
  split
  · exact .inl rfl
  · rename_i h
    obtain ⟨hv, h1⟩ := not_or.1 h
    obtain ⟨h2, h3⟩ := not_or.1 h1
    have hv' : valid f = true := by simpa using hv
    obtain ⟨_, l2, _, _, _⟩ := valid_len hv'
    refine .inr ⟨hv', by omega, ?_, rfl⟩
    have := (Int.le_ediv_iff_mul_le (a := q + 1) (b := (f.bytes.length : Int)) (c := f.sector) (by omega)).1 (by omega)
    rw [Int.add_mul, Int.one_mul] at this
    exact this

theorem erase_fits {f : Fl} {q : Int} (hv : valid f = true) (h0 : 0 ≤ q) (h1 : q * f.sector + f.sector ≤ f.bytes.length) :
    erase f q = (steps f (q * f.sector).toNat f.sector.toNat toFF, 0) := by
  obtain ⟨_, l2, _, _, _⟩ := valid_len hv
  have := (Int.le_ediv_iff_mul_le (a := q + 1) (b := (f.bytes.length : Int)) (c := f.sector) (by omega)).2 (by rw [Int.add_mul, Int.one_mul]; exact h1)
  unfold erase
  rw [if_neg (fun h => h.elim (fun e => by rw [hv] at e; cases e) (fun e => by omega))]

theorem valid_upd (f : Fl) (s k : Nat) (g : Nat → UInt8 → UInt8) : valid ⟨f.sector, upd f.bytes s k g⟩ = valid f := by
  unfold valid
  simp only [upd_length]

theorem steps_last (f : Fl) (s n : Nat) (g : Nat → UInt8 → UInt8) : (steps f s n g)[n]? = some ⟨f.sector, upd f.bytes s n g⟩ := by
  rw [List.getElem?_eq_getElem (by simp), steps_get]

theorem upd_again (bs : List UInt8) (s i n : Nat) (g : Nat → UInt8 → UInt8) (h : i ≤ n) (hg : ∀ j b, g j (g j b) = g j b) : upd (upd bs s i g) s n g = upd bs s n g := by
  apply List.ext_getElem?
  intro j
  rw [upd_getElem?, upd_getElem?, upd_getElem?, Option.map_map]
  congr 1
  funext b
  simp only [Function.comp]
  by_cases h1 : s ≤ j ∧ j < s + i
  · have h2 : s ≤ j ∧ j < s + n := by omega
    simp only [if_pos h1, if_pos h2, hg]
  · by_cases h2 : s ≤ j ∧ j < s + n
    · simp only [if_neg h1, if_pos h2]
    · simp only [if_neg h1, if_neg h2]

theorem upd_comm (bs : List UInt8) (s n t m : Nat) (g h : Nat → UInt8 → UInt8) (hg : ∀ i j b, g i (h j b) = h j (g i b)) : upd (upd bs s n g) t m h = upd (upd bs t m h) s n g := by
  apply List.ext_getElem?
  intro j
  rw [upd_getElem?, upd_getElem?, upd_getElem?, upd_getElem?, Option.map_map, Option.map_map]
  congr 1
  funext b
  simp only [Function.comp]
  by_cases h1 : s ≤ j ∧ j < s + n
  · by_cases h2 : t ≤ j ∧ j < t + m
    · simp only [if_pos h1, if_pos h2, hg]
    · simp only [if_pos h1, if_neg h2]
  · by_cases h2 : t ≤ j ∧ j < t + m
    · simp only [if_neg h1, if_pos h2]
    · simp only [if_neg h1, if_neg h2]

theorem and_again (data : List UInt8) (j : Nat) (b : UInt8) : andWith data j (andWith data j b) = andWith data j b := by
  unfold andWith
  rw [UInt8.and_assoc, UInt8.and_self]

theorem and_swap (d e : List UInt8) (i j : Nat) (b : UInt8) : andWith d i (andWith e j b) = andWith e j (andWith d i b) := by
  unfold andWith
  rw [UInt8.and_assoc, UInt8.and_assoc, UInt8.and_comm (e.getD j 255)]

theorem ff_again (j : Nat) (b : UInt8) : toFF j (toFF j b) = toFF j b := rfl

theorem and_full (b : UInt8) : b &&& 255 = b := by
  apply UInt8.toNat_inj.1
  rw [UInt8.toNat_and]
  exact Nat.and_two_pow_sub_one_of_lt_two_pow (n := 8) (UInt8.toNat_lt b)

theorem full_and (b : UInt8) : 255 &&& b = b := by rw [UInt8.and_comm, and_full]

/-- the bits that both data have. -/
def common (data more : List UInt8) : List UInt8 := data.mapIdx fun i b => b &&& more.getD i 255
theorem common_length (data more : List UInt8) : (common data more).length = data.length := by simp [common]

theorem upd_two (bs : List UInt8) (s : Nat) (data more : List UInt8) (h : more.length ≤ data.length) :
    upd (upd bs s data.length (andWith data)) s more.length (andWith more) = upd bs s data.length (andWith (common data more)) := by
  apply List.ext_getElem?
  intro j
  rw [upd_getElem?, upd_getElem?, upd_getElem?, Option.map_map]
  congr 1
  funext b
  simp only [Function.comp]
  by_cases h1 : s ≤ j ∧ j < s + data.length
  · have hc : (common data more).getD (j - s) 255 = data.getD (j - s) 255 &&& more.getD (j - s) 255 := by
      have hl : j - s < data.length := by omega
      simp [common, List.getD, List.getElem?_eq_getElem hl]
    by_cases h2 : s ≤ j ∧ j < s + more.length
    · simp only [if_pos h1, if_pos h2, andWith, hc, UInt8.and_assoc]
    · have hm : more.getD (j - s) 255 = 255 := by
        rw [List.getD_eq_getElem?_getD, List.getElem?_eq_none (by omega)]
        rfl
      simp only [if_pos h1, if_neg h2, andWith, hc, hm, and_full]
  · have h2 : ¬ (s ≤ j ∧ j < s + more.length) := by omega
    simp only [if_neg h1, if_neg h2]

theorem upd_take (bs data : List UInt8) (s k i : Nat) (h : i ≤ k) : upd bs s i (andWith (data.take k)) = upd bs s i (andWith data) := by
  apply List.ext_getElem?
  intro j
  rw [upd_getElem?, upd_getElem?]
  congr 1
  funext b
  by_cases h1 : s ≤ j ∧ j < s + i
  · simp only [if_pos h1, andWith, List.getD_eq_getElem?_getD, List.getElem?_take, if_pos (show j - s < k by omega)]
  · simp only [if_neg h1]

theorem upd_parts (bs data : List UInt8) (s k i : Nat) : upd (upd bs s k (andWith data)) (s + k) i (andWith (data.drop k)) = upd bs s (k + i) (andWith data) := by
  apply List.ext_getElem?
  intro j
  rw [upd_getElem?, upd_getElem?, upd_getElem?, Option.map_map]
  congr 1
  funext b
  simp only [Function.comp]
  by_cases h1 : s ≤ j ∧ j < s + k
  · have h2 : s ≤ j ∧ j < s + (k + i) := by omega
    have h3 : ¬ (s + k ≤ j ∧ j < s + k + i) := by omega
    simp only [if_pos h1, if_pos h2, if_neg h3]
  · by_cases h3 : s + k ≤ j ∧ j < s + k + i
    · have h2 : s ≤ j ∧ j < s + (k + i) := by omega
      simp only [if_neg h1, if_pos h2, if_pos h3, andWith, List.getD_eq_getElem?_getD, List.getElem?_drop]
      rw [show k + (j - (s + k)) = j - s by omega]
    · have h2 : ¬ (s ≤ j ∧ j < s + (k + i)) := by omega
      simp only [if_neg h1, if_neg h2, if_neg h3]

/-- what 'done' returns. -/
def doneF (f : Fl) (s : Int) (data : List UInt8) : Fl × Bool :=
  if (program f s data).2 = 0 then (⟨f.sector, upd f.bytes s.toNat data.length (andWith data)⟩, true) else (⟨0, []⟩, false)

theorem done_fits {f : Fl} {s : Int} {data : List UInt8} (hv : valid f = true) (h0 : 0 ≤ s) (h1 : s + data.length ≤ f.bytes.length) :
    doneF f s data = (⟨f.sector, upd f.bytes s.toNat data.length (andWith data)⟩, true) := by
  unfold doneF
  rw [program_fits hv h0 h1, if_pos rfl]

theorem done_cases (f : Fl) (s : Int) (data : List UInt8) :
    doneF f s data = (⟨0, []⟩, false) ∨
    (valid f = true ∧ 0 ≤ s ∧ s + data.length ≤ f.bytes.length ∧ doneF f s data = (⟨f.sector, upd f.bytes s.toNat data.length (andWith data)⟩, true)) := by
  rcases program_cases f s data with ⟨e, he, h⟩ | ⟨hv, h0, h1, _⟩
  · left
    unfold doneF
    rw [h, if_neg (by rcases he with rfl | rfl <;> decide)]
  · exact .inr ⟨hv, h0, h1, done_fits hv h0 h1⟩

theorem done_len (f : Fl) (s : Int) (data : List UInt8) : (doneF f s data).1.bytes.length ≤ 1000000 := by
  rcases done_cases f s data with h | ⟨hv, _, _, h⟩
  · rw [h]; simp
  · have := (valid_len hv).1
    rw [h]
    simp only [upd_length]
    omega

/-- Law 23.5: again. -/
theorem again_from {f : Fl} {s : Int} {data : List UInt8} (hv : valid f = true) (h0 : 0 ≤ s) (h1 : s + data.length ≤ f.bytes.length) (i : Nat) (hi : i ≤ data.length) :
    doneF ⟨f.sector, upd f.bytes s.toNat i (andWith data)⟩ s data = (⟨f.sector, upd f.bytes s.toNat data.length (andWith data)⟩, true) := by
  rw [done_fits (by rw [valid_upd]; exact hv) h0 (by simpa using h1)]
  simp only [upd_again _ _ _ _ _ hi (and_again data)]

/-- Law 23.6: order. -/
theorem order_done {f a b : Fl} {s t : Int} {data more : List UInt8} (ha : doneF f s data = (a, true)) (hb : doneF f t more = (b, true)) : ∃ c, doneF a t more = (c, true) ∧ doneF b s data = (c, true) := by
  rcases done_cases f s data with h | ⟨hv, h0, h1, h⟩
  · rw [h] at ha; cases ha
  · rcases done_cases f t more with h' | ⟨_, h2, h3, h'⟩
    · rw [h'] at hb; cases hb
    · rw [h] at ha
      rw [h'] at hb
      cases ha
      cases hb
      refine ⟨_, done_fits (by rw [valid_upd]; exact hv) h2 (by simpa using h3), ?_⟩
      rw [done_fits (by rw [valid_upd]; exact hv) h0 (by simpa using h1)]
      simp only [upd_comm _ _ _ _ _ _ _ (and_swap more data)]

theorem order_common {f a : Fl} {s : Int} {data more : List UInt8} (ha : doneF f s data = (a, true)) (hm : more.length ≤ data.length) : ∃ c, doneF a s more = (c, true) ∧ doneF f s (common data more) = (c, true) := by
  rcases done_cases f s data with h | ⟨hv, h0, h1, h⟩
  · rw [h] at ha; cases ha
  · rw [h] at ha
    cases ha
    refine ⟨_, done_fits (by rw [valid_upd]; exact hv) h0 (by simp only [upd_length]; omega), ?_⟩
    rw [done_fits hv h0 (by rw [common_length]; exact h1), common_length]
    simp only [upd_two _ _ _ _ hm]

/-- Law 23.8: parts. -/
theorem steps_take (f : Fl) (s n k : Nat) (data : List UInt8) (h : k ≤ n) : steps f s k (andWith (data.take k)) = (steps f s n (andWith data)).take (k + 1) := by
  apply List.ext_getElem
  · simp; omega
  · intro i h1 h2
    rw [List.getElem_take, steps_get, steps_get, upd_take _ _ _ _ _ (by simp at h1; omega)]

theorem steps_drop (f : Fl) (s n k : Nat) (data : List UInt8) :
    (steps ⟨f.sector, upd f.bytes s k (andWith data)⟩ (s + k) (n - k) (andWith (data.drop k))).drop 1 = (steps f s n (andWith data)).drop (k + 1) := by
  apply List.ext_getElem
  · simp
  · intro i h1 h2
    rw [List.getElem_drop, List.getElem_drop, steps_get, steps_get, upd_parts, show k + (1 + i) = k + 1 + i by omega]

theorem parts_eq (f : Fl) (s n k : Nat) (data : List UInt8) (h : k ≤ n) :
    steps f s n (andWith data) = steps f s k (andWith (data.take k)) ++ (steps ⟨f.sector, upd f.bytes s k (andWith (data.take k))⟩ (s + k) (n - k) (andWith (data.drop k))).drop 1 := by
  rw [upd_take _ _ _ _ _ (Nat.le_refl k), steps_drop _ _ _ _ _, steps_take _ _ _ _ _ h, List.take_append_drop]

/-- Law 23.4: a program into an erased memory. -/
theorem upd_full (n s : Nat) (data : List UInt8) (j : Nat) (hj : j < n) :
    (upd (List.replicate n 255) s data.length (andWith data))[j]? = some (if s ≤ j ∧ j < s + data.length then data.getD (j - s) 255 else 255) := by
  rw [upd_getElem?, List.getElem?_replicate, if_pos hj]
  simp only [Option.map_some, andWith, full_and]

/-- Laws 23.2, 23.3: one step. -/
theorem step_at (bs : List UInt8) (s k : Nat) (g : Nat → UInt8 → UInt8) (h : s + k < bs.length) : (upd bs s (k + 1) g)[s + k]'(by simpa using h) = g k (bs[s + k]) := by
  have := upd_getElem? bs s (k + 1) g (s + k)
  rw [List.getElem?_eq_getElem (by simpa using h), List.getElem?_eq_getElem h] at this
  simp only [Option.map_some, Option.some.injEq] at this
  rw [this, if_pos (by omega), show s + k - s = k by omega]

end Go.Proofs.Ytdoehnnhbfmleaa
