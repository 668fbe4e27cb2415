/- Plain facts on numbers laid in groups of seven bits, and on records: no program is in sight here. -/
set_option autoImplicit false
namespace Go.Proofs.YthgfdcbeajfojaaDoor

/-- Bytes. -/
abbrev Bytes := List UInt8

/-! ### 1. A number in groups of seven bits -/
def lay (n : Nat) : Bytes := if n < 128 then [UInt8.ofNat n] else UInt8.ofNat (n % 128 + 128) :: lay (n / 128)
termination_by n
decreasing_by omega

theorem lay_small {n : Nat} (h : n < 128) : lay n = [UInt8.ofNat n] := by rw [lay, if_pos h]
theorem lay_big {n : Nat} (h : 128 ≤ n) : lay n = UInt8.ofNat (n % 128 + 128) :: lay (n / 128) := by rw [lay, if_neg (by omega)]

theorem toNat_ofNat_small {n : Nat} (h : n < 256) : (UInt8.ofNat n).toNat = n := by
  rw [UInt8.toNat_ofNat']
  exact Nat.mod_eq_of_lt h

theorem lay_pos (n : Nat) : 1 ≤ (lay n).length := by
  rw [lay]
  split <;> simp

theorem lay_length_le (k : Nat) : ∀ n : Nat, n < 128 ^ (k + 1) → (lay n).length ≤ k + 1 := by
  induction k with
  | zero => intro n h; rw [lay_small (by simpa using h)]; simp
  | succ k ih =>
    intro n h
    by_cases hn : n < 128
    · rw [lay_small hn]; simp
    · rw [lay_big (by omega)]
      have := ih (n / 128) (by
        rw [Nat.div_lt_iff_lt_mul (by omega)]
        rw [Nat.pow_succ] at h
        omega)
      simp only [List.length_cons]
      omega

theorem lay_length_10 {n : Nat} (h : n < 2 ^ 64) : (lay n).length ≤ 10 := lay_length_le 9 n (by
  have : (2 : Nat) ^ 64 < 128 ^ (9 + 1) := by decide
  omega)

/-- The reader: at byte number i, with what has been read so far. An error's number, or the number and what stands behind it. -/
def takeGo : Nat → Nat → Bytes → Except Nat (Nat × Bytes)
  | _, _, [] => .error 5
  | i, acc, b :: r =>
    if (i = 9 ∧ 1 < b.toNat) ∨ (0 < i ∧ b.toNat = 0) then .error 4
    else if b.toNat < 128 then .ok (acc + b.toNat % 128 * 2 ^ (7 * i), r) else takeGo (i + 1) (acc + b.toNat % 128 * 2 ^ (7 * i)) r
def take (p : Bytes) : Except Nat (Nat × Bytes) := takeGo 0 0 p

theorem takeGo_lay (k : Nat) : ∀ (i acc n : Nat) (r : Bytes), i + k = 9 → n < 2 ^ (64 - 7 * i) → (0 < i → 0 < n) → takeGo i acc (lay n ++ r) = .ok (acc + n * 2 ^ (7 * i), r) := by
  induction k with
  | zero =>
    intro i acc n r hi hn h0
    obtain rfl : i = 9 := by omega
    have h2 : n < 2 := by simpa using hn
    rw [lay_small (by omega)]
    simp only [List.cons_append, List.nil_append, takeGo]
    have hb : (UInt8.ofNat n).toNat = n := toNat_ofNat_small (by omega)
    have h0' := h0 (by omega)
    rw [hb, if_neg (by omega), if_pos (by omega), Nat.mod_eq_of_lt (by omega)]
  | succ k ih =>
    intro i acc n r hi hn h0
    by_cases hs : n < 128
    · rw [lay_small hs]
      simp only [List.cons_append, List.nil_append, takeGo]
      have hb : (UInt8.ofNat n).toNat = n := toNat_ofNat_small (by omega)
      rw [hb, if_neg (by omega), if_pos (by omega), Nat.mod_eq_of_lt (by omega)]
    · rw [lay_big (by omega)]
      simp only [List.cons_append, takeGo]
      have hb : (UInt8.ofNat (n % 128 + 128)).toNat = n % 128 + 128 := toNat_ofNat_small (by omega)
      rw [hb, if_neg (by omega), if_neg (by omega)]
      have he : 64 - 7 * i = 7 + (64 - 7 * (i + 1)) := by omega
      have hd : n / 128 < 2 ^ (64 - 7 * (i + 1)) := by
        rw [Nat.div_lt_iff_lt_mul (by omega)]
        rw [he, Nat.pow_add] at hn
        omega
      rw [ih (i + 1) _ (n / 128) r (by omega) hd (fun _ => by omega)]
      have hm : (n % 128 + 128) % 128 = n % 128 := by omega
      rw [hm, show 7 * (i + 1) = 7 + 7 * i from by omega, Nat.pow_add]
      have hdm : n = n / 128 * 128 + n % 128 := by omega
      have e2 : n * 2 ^ (7 * i) = n / 128 * (2 ^ 7 * 2 ^ (7 * i)) + n % 128 * 2 ^ (7 * i) := by
        conv => lhs; rw [hdm, Nat.add_mul]
        rw [Nat.mul_assoc]
      rw [e2]
      congr 2
      omega

theorem take_lay {n : Nat} (h : n < 2 ^ 64) (r : Bytes) : take (lay n ++ r) = .ok (n, r) := by
  have := takeGo_lay 9 0 0 n r (by omega) (by simpa using h) (by omega)
  simpa [take] using this

/-- A beginning of a laid number, cut ahead of its end, isn't all there. -/
theorem takeGo_short (k : Nat) : ∀ (i acc n m : Nat), i + k = 9 → n < 2 ^ (64 - 7 * i) → (0 < i → 0 < n) → m < (lay n).length → takeGo i acc ((lay n).take m) = .error 5 := by
  induction k with
  | zero =>
    intro i acc n m hi hn h0 hm
    obtain rfl : i = 9 := by omega
    have h2 : n < 2 := by simpa using hn
    rw [lay_small (by omega)] at hm ⊢
    obtain rfl : m = 0 := by simpa using hm
    rfl
  | succ k ih =>
    intro i acc n m hi hn h0 hm
    by_cases hs : n < 128
    · rw [lay_small hs] at hm ⊢
      obtain rfl : m = 0 := by simpa using hm
      rfl
    · rw [lay_big (by omega)] at hm ⊢
      cases m with
      | zero => rfl
      | succ m =>
        simp only [List.take_succ_cons, takeGo]
        have hb : (UInt8.ofNat (n % 128 + 128)).toNat = n % 128 + 128 := toNat_ofNat_small (by omega)
        rw [hb, if_neg (by omega), if_neg (by omega)]
        have he : 64 - 7 * i = 7 + (64 - 7 * (i + 1)) := by omega
        have hd : n / 128 < 2 ^ (64 - 7 * (i + 1)) := by
          rw [Nat.div_lt_iff_lt_mul (by omega)]
          rw [he, Nat.pow_add] at hn
          omega
        exact ih (i + 1) _ (n / 128) m (by omega) hd (fun _ => by omega) (by simpa using hm)

theorem take_short {n m : Nat} (h : n < 2 ^ 64) (hm : m < (lay n).length) : take ((lay n).take m) = .error 5 :=
  takeGo_short 9 0 0 n m (by omega) (by simpa using h) (by omega) hm

/-- What is read is behind at least one byte. -/
theorem takeGo_shrinks (p : Bytes) : ∀ (i acc n : Nat) (r : Bytes), takeGo i acc p = .ok (n, r) → ∃ q, p = q ++ r ∧ 1 ≤ q.length := by
  induction p with
  | nil => intro i acc n r h; simp [takeGo] at h
  | cons b p ih =>
    intro i acc n r h
    simp only [takeGo] at h
    split at h
    · simp at h
    · split at h
      · injection h with h
        injection h with h1 h2
        subst h2
        exact ⟨[b], rfl, by simp⟩
      · obtain ⟨q, hq, hl⟩ := ih _ _ _ _ h
        exact ⟨b :: q, by rw [hq]; rfl, by simp⟩

theorem takeGo_err_cases (p : Bytes) : ∀ (i acc c : Nat), takeGo i acc p = .error c → c = 4 ∨ c = 5 := by
  induction p with
  | nil => intro i acc c h; simp [takeGo] at h; omega
  | cons b p ih =>
    intro i acc c h
    simp only [takeGo] at h
    split at h
    · injection h with h; omega
    · split at h
      · simp at h
      · exact ih _ _ _ h
theorem take_err_cases {p : Bytes} {c : Nat} (h : take p = .error c) : c = 4 ∨ c = 5 := takeGo_err_cases p _ _ _ h

/-! ### 2. A text: how many bytes, and they -/
def layText (t : Bytes) : Bytes := lay t.length ++ t
def takeText (most : Nat) (p : Bytes) : Except Nat (Bytes × Bytes) :=
  match take p with
  | .error e => .error e
  | .ok (n, rest) => if most < n then .error 6 else if rest.length < n then .error 5 else .ok (rest.take n, rest.drop n)

theorem takeText_lay {most : Nat} {t : Bytes} (ht : t.length ≤ most) (h : t.length < 2 ^ 64) (r : Bytes) : takeText most (layText t ++ r) = .ok (t, r) := by
  unfold takeText layText
  rw [List.append_assoc, take_lay h]
  simp only
  rw [if_neg (by omega), if_neg (by simp)]
  simp

theorem takeText_short {most : Nat} {t : Bytes} (ht : t.length ≤ most) (h : t.length < 2 ^ 64) {m : Nat} (hm : m < (layText t).length) : takeText most ((layText t).take m) = .error 5 := by
  unfold takeText layText at *
  rw [List.length_append] at hm
  by_cases hl : m < (lay t.length).length
  · rw [List.take_append_of_le_length (by omega), take_short h hl]
  · rw [List.take_append, List.take_of_length_le (by omega), take_lay h]
    simp only
    rw [if_neg (by omega), if_pos (by rw [List.length_take]; omega)]

/-! ### 3. A record: a text, and four bytes that a sum gives -/
variable (sum : Bytes → Nat)
def four (n : Nat) : Bytes := [UInt8.ofNat (n / 16777216), UInt8.ofNat (n / 65536), UInt8.ofNat (n / 256), UInt8.ofNat n]
theorem four_length (n : Nat) : (four n).length = 4 := rfl
def wrap (p : Bytes) : Bytes := layText p ++ four (sum (layText p))
theorem wrap_length (p : Bytes) : (wrap sum p).length = (lay p.length).length + p.length + 4 := by simp [wrap, layText, four, Nat.add_assoc]

/-- The record ahead: its bytes, and what stands behind it; or an error's number. -/
def openR (most : Nat) (p : Bytes) : Except Nat (Bytes × Bytes) :=
  match takeText most p with
  | .error e => .error e
  | .ok (body, rest) =>
    if rest.length < 4 then .error 5
    else if four (sum (p.take (p.length - rest.length))) = rest.take 4 then .ok (body, rest.drop 4) else .error 4

theorem openR_wrap {most : Nat} {t : Bytes} (ht : t.length ≤ most) (h : t.length < 2 ^ 64) (r : Bytes) : openR sum most (wrap sum t ++ r) = .ok (t, r) := by
  unfold openR wrap
  rw [List.append_assoc, takeText_lay ht h]
  simp only
  rw [if_neg (by simp [four])]
  have e : (layText t ++ (four (sum (layText t)) ++ r)).length - (four (sum (layText t)) ++ r).length = (layText t).length := by simp
  rw [e, List.take_left, if_pos (by simp [four])]
  simp [four]

theorem openR_short {most : Nat} {t : Bytes} (ht : t.length ≤ most) (h : t.length < 2 ^ 64) {m : Nat} (hm : m < (wrap sum t).length) : openR sum most ((wrap sum t).take m) = .error 5 := by
  unfold openR wrap at *
  rw [List.length_append, four_length] at hm
  by_cases hl : m < (layText t).length
  · rw [List.take_append_of_le_length (by omega), takeText_short ht h hl]
  · have e : (layText t ++ four (sum (layText t))).take m = layText t ++ (four (sum (layText t))).take (m - (layText t).length) := by
      rw [List.take_append, List.take_of_length_le (by omega)]
    rw [e, takeText_lay ht h]
    simp only
    rw [if_pos (by rw [List.length_take, four_length]; omega)]

theorem take_ok_shrinks {p r : Bytes} {n : Nat} (h : take p = .ok (n, r)) : r.length < p.length := by
  obtain ⟨q, rfl, hq⟩ := takeGo_shrinks p _ _ _ _ h
  simp; omega
theorem takeText_ok_shrinks {most : Nat} {p t r : Bytes} (h : takeText most p = .ok (t, r)) : r.length < p.length := by
  unfold takeText at h
  split at h
  · simp at h
  · rename_i n rest hk
    split at h
    · simp at h
    · split at h
      · simp at h
      · injection h with h
        injection h with h1 h2
        have := take_ok_shrinks hk
        rw [← h2, List.length_drop]
        omega
theorem openR_ok_shrinks {most : Nat} {p t r : Bytes} (h : openR sum most p = .ok (t, r)) : r.length < p.length := by
  unfold openR at h
  split at h
  · simp at h
  · rename_i body rest hk
    split at h
    · simp at h
    · split at h
      · injection h with h
        injection h with h1 h2
        have := takeText_ok_shrinks hk
        rw [← h2, List.length_drop]
        omega
      · simp at h

/-- The records ahead, up to the first that isn't right; how many bytes are left, and the error's number (0: nothing is left). -/
def allR (most : Nat) (p : Bytes) : List Bytes × Nat × Nat :=
  if p = [] then ([], 0, 0) else
  match h : openR sum most p with
  | .error e => ([], p.length, e)
  | .ok (b, r) => let (l, left, e) := allR most r; (b :: l, left, e)
termination_by p.length
decreasing_by exact openR_ok_shrinks sum h

theorem allR_nil (most : Nat) : allR sum most [] = ([], 0, 0) := by rw [allR]; simp
theorem allR_err {most : Nat} {p : Bytes} {e : Nat} (hp : p ≠ []) (h : openR sum most p = .error e) : allR sum most p = ([], p.length, e) := by
  rw [allR, if_neg hp]
  split
  · rename_i e' h'
    rw [h] at h'
    injection h' with h'
    rw [h']
  · rename_i b r h'
    rw [h] at h'
    simp at h'
theorem allR_ok {most : Nat} {p b r : Bytes} (hp : p ≠ []) (h : openR sum most p = .ok (b, r)) : allR sum most p = (b :: (allR sum most r).1, (allR sum most r).2.1, (allR sum most r).2.2) := by
  conv => lhs; rw [allR, if_neg hp]
  split
  · rename_i e' h'
    rw [h] at h'
    simp at h'
  · rename_i b' r' h'
    rw [h] at h'
    injection h' with h'
    injection h' with h1 h2
    subst h1 h2
    rfl

theorem wrap_ne_nil (t : Bytes) (r : Bytes) : wrap sum t ++ r ≠ [] := by
  intro h
  have := congrArg List.length h
  simp [wrap, four] at this

def wraps (l : List Bytes) : Bytes := (l.map (wrap sum)).flatten
theorem allR_wraps {most : Nat} (hm : most < 2 ^ 64) (l : List Bytes) (hl : ∀ t, t ∈ l → t.length ≤ most) (r : Bytes) :
    allR sum most (wraps sum l ++ r) = (l ++ (allR sum most r).1, (allR sum most r).2.1, (allR sum most r).2.2) := by
  induction l with
  | nil => simp [wraps]
  | cons t l ih =>
    have e : wraps sum (t :: l) ++ r = wrap sum t ++ (wraps sum l ++ r) := by simp [wraps]
    have h1 := hl t (by simp)
    rw [e, allR_ok sum (wrap_ne_nil sum t _) (openR_wrap sum h1 (by omega) _), ih (fun u hu => hl u (by simp [hu]))]
    rfl

end Go.Proofs.YthgfdcbeajfojaaDoor
