/- Plain facts: a segment's name is split into what it was made of; it may be a file's name. -/
import Derived.Test.YthgfdcbeajfojaaDoorSplit
set_option autoImplicit false
namespace Go.Proofs.YthgfdcbeajfojaaDoor

/-! ### 1. Decimal numerals -/
theorem parse10_snoc : ∀ (l : Bytes) (acc v d : Nat), Lib.parseUint10 acc l = .ok v → d < 10 → v * 10 + d < 18446744073709551616 → Lib.parseUint10 acc (l ++ [UInt8.ofNat (48 + d)]) = .ok (v * 10 + d)
  | [], acc, v, d, h, hd, hv => by
    simp only [Lib.parseUint10] at h
    injection h with h
    subst h
    have hn : (UInt8.ofNat (48 + d)).toNat = 48 + d := by simp; omega
    simp only [List.nil_append, Lib.parseUint10, hn]
    rw [if_pos ⟨by omega, by omega⟩, if_neg (by omega), if_neg (by omega)]
    congr 1
    omega
  | c :: l, acc, v, d, h, hd, hv => by
    rw [List.cons_append]
    unfold Lib.parseUint10 at h ⊢
    split at h
    · rename_i hc
      rw [if_pos hc]
      split at h
      · cases h
      · rename_i h1
        rw [if_neg h1]
        split at h
        · cases h
        · rename_i h2
          rw [if_neg h2]
          exact parse10_snoc l _ v d h hd hv
    · cases h
theorem parse10_dec (u : Nat) (hu : u < 18446744073709551616) : Lib.parseUint10 0 (Lib.decDigits u) = .ok u := by
  induction u using Nat.strongRecOn with
  | _ u ih =>
    by_cases h : u < 10
    · rw [Lib.decDigits_one h]
      have := parse10_snoc [] 0 0 u rfl h (by omega)
      simpa using this
    · rw [Lib.decDigits, dif_neg h]
      have := parse10_snoc (Lib.decDigits (u / 10)) 0 (u / 10) (u % 10) (ih (u / 10) (by omega) (by omega)) (by omega) (by omega)
      rw [this]
      congr 1
      omega
theorem dec_digit (u : Nat) : ∀ b ∈ Lib.decDigits u, 48 ≤ b.toNat ∧ b.toNat ≤ 57 := by
  induction u using Nat.strongRecOn with
  | _ u ih =>
    intro b hb
    rw [Lib.decDigits] at hb
    split at hb
    · simp only [List.mem_singleton] at hb
      subst hb
      simp
      omega
    · rw [List.mem_append] at hb
      rcases hb with hb | hb
      · exact ih (u / 10) (by omega) b hb
      · simp only [List.mem_singleton] at hb
        subst hb
        simp
        omega
theorem dec_ne (u : Nat) : Lib.decDigits u ≠ [] := by
  rw [Lib.decDigits]
  split <;> simp
theorem atoi_itoa (n : Int) (h0 : 0 ≤ n) (h1 : n ≤ 9223372036854775807) : Lib.atoiAll (Lib.itoa n) = .ok n := by
  have e : Lib.itoa n = Lib.decDigits n.toNat := by unfold Lib.itoa; rw [if_neg (by omega)]
  rw [e]
  have hne := dec_ne n.toNat
  have hd := dec_digit n.toNat
  have hp : Lib.parseMag (Lib.decDigits n.toNat) = .ok n.toNat := by
    unfold Lib.parseMag
    rw [if_neg hne]
    exact parse10_dec _ (by omega)
  cases hl : Lib.decDigits n.toNat with
  | nil => exact absurd hl hne
  | cons c r =>
    rw [hl] at hp hd
    have hc := hd c (by simp)
    rw [Lib.atoiAll_plain c r (by omega) (by omega), hp]
    simp only [Lib.signless]
    rw [if_neg (by omega)]
    congr 1
    omega

/-! ### 2. Numerals to the base of 16 -/
theorem hexVal_digit : ∀ d : Fin 16, hexVal (hexDigit d.val) = some d.val := by decide +kernel
theorem parse16_snoc : ∀ (l : Bytes) (acc v d : Nat), parse16 acc l = .ok v → d < 16 → v * 16 + d < 18446744073709551616 → parse16 acc (l ++ [hexDigit d]) = .ok (v * 16 + d)
  | [], acc, v, d, h, hd, hv => by
    simp only [parse16] at h
    injection h with h
    subst h
    simp only [List.nil_append, parse16, hexVal_digit ⟨d, hd⟩]
    rw [if_neg (by omega)]
  | c :: l, acc, v, d, h, hd, hv => by
    rw [List.cons_append]
    unfold parse16 at h ⊢
    split at h
    · simp [noNum, Lib.parseMag] at h
    · rename_i d' hd'
      split at h
      · cases h
      · rename_i h1
        rw [if_neg h1]
        exact parse16_snoc l _ v d h hd hv
theorem parse16_hex (u : Nat) (hu : u < 18446744073709551616) : parse16 0 (hexs u) = .ok u := by
  induction u using Nat.strongRecOn with
  | _ u ih =>
    by_cases h : u < 16
    · rw [hexs_small h]
      have := parse16_snoc [] 0 0 u rfl h (by omega)
      simpa using this
    · rw [hexs_big (by omega)]
      have := parse16_snoc (hexs (u / 16)) 0 (u / 16) (u % 16) (ih (u / 16) (by omega) (by omega)) (by omega) (by omega)
      rw [this]
      congr 1
      omega
theorem parse16_zeros (l : Bytes) : ∀ k, parse16 0 (List.replicate k 48 ++ l) = parse16 0 l
  | 0 => rfl
  | k + 1 => by
    rw [List.replicate_succ, List.cons_append, parse16]
    rw [show hexVal 48 = some 0 by decide +kernel]
    exact parse16_zeros l k
theorem parseHex_pad (x : Nat) (hx : x < 18446744073709551616) : parseHex (padOf x) = .ok x := by
  unfold parseHex
  have hp := hexs_pos x
  rw [if_neg (fun h => by unfold padOf at h; rw [List.append_eq_nil_iff] at h; rw [h.2] at hp; simp at hp)]
  unfold padOf
  rw [parse16_zeros, parse16_hex x hx]
theorem hex_ok : ∀ d : Fin 16, (48 ≤ (hexDigit d.val).toNat ∧ (hexDigit d.val).toNat ≤ 57) ∨ (97 ≤ (hexDigit d.val).toNat ∧ (hexDigit d.val).toNat ≤ 122) := by decide +kernel
theorem hexs_ok (u : Nat) : ∀ b ∈ hexs u, (48 ≤ b.toNat ∧ b.toNat ≤ 57) ∨ (97 ≤ b.toNat ∧ b.toNat ≤ 122) := by
  induction u using Nat.strongRecOn with
  | _ u ih =>
    intro b hb
    by_cases h : u < 16
    · rw [hexs_small h, List.mem_singleton] at hb
      subst hb
      exact hex_ok ⟨u, h⟩
    · rw [hexs_big (by omega), List.mem_append] at hb
      rcases hb with hb | hb
      · exact ih (u / 16) (by omega) b hb
      · rw [List.mem_singleton] at hb
        subst hb
        exact hex_ok ⟨u % 16, by omega⟩

/-! ### 3. The name, cut -/
theorem index_at : ∀ (a b : Bytes), (∀ x ∈ a, x ≠ 45) → Lib.index (a ++ 45 :: b) [45] = (a.length : Int)
  | [], b, _ => by simp [Lib.index]
  | x :: a, b, h => by
    have hx : x ≠ 45 := h x (by simp)
    have ih := index_at a b (fun y hy => h y (by simp [hy]))
    rw [List.cons_append, Lib.index, ih]
    have h1 : List.isPrefixOf [45] (x :: (a ++ 45 :: b)) = false := by
      simp [List.isPrefixOf]
      exact fun h => hx h.symm
    rw [h1]
    have h2 : ((a.length : Int) == -1) = false := by
      rw [beq_eq_false_iff_ne]
      omega
    rw [h2]
    simp
theorem cut_at (a b : Bytes) (h : ∀ x ∈ a, x ≠ 45) : Lib.cut (a ++ 45 :: b) [45] = (a, b, true) := by
  unfold Lib.cut
  rw [index_at a b h, if_pos (by omega)]
  simp
theorem trim_at (l : Bytes) : Lib.hasPrefix (feedB ++ l) feedB = true ∧ Lib.trimPrefix (feedB ++ l) feedB = l := by
  have h : Lib.hasPrefix (feedB ++ l) feedB = true := by simp [Lib.hasPrefix, feedB, List.isPrefixOf]
  refine ⟨h, ?_⟩
  unfold Lib.trimPrefix
  rw [h]
  simp [feedB]
theorem split_name (n : Int) (x : Nat) (h0 : 0 ≤ n) (h1 : n ≤ 9223372036854775807) (hx : x < 18446744073709551616) : splitOf (nameOf n x) = some (n, x) := by
  have e : nameOf n x = feedB ++ (Lib.itoa n ++ 45 :: padOf x) := by simp [nameOf, beginOf]
  have hd : ∀ b ∈ Lib.itoa n, b ≠ 45 := by
    intro b hb e
    subst e
    have e1 : Lib.itoa n = Lib.decDigits n.toNat := by unfold Lib.itoa; rw [if_neg (by omega)]
    rw [e1] at hb
    have := dec_digit _ _ hb
    simp at this
  obtain ⟨t1, t2⟩ := trim_at (Lib.itoa n ++ 45 :: padOf x)
  unfold splitOf
  rw [e, t2, cut_at _ _ hd]
  simp only [atoi_itoa n h0 h1, parseHex_pad x hx]
  rw [if_pos ⟨t1, trivial, h0, e⟩]
/-- Of a name that is split: it is that of what it is split into. -/
theorem split_some {l : Bytes} {n : Int} {x : Nat} (h : splitOf l = some (n, x)) : nameOf n x = l ∧ 0 ≤ n ∧ n ≤ 9223372036854775807 ∧ x < 18446744073709551616 := by
  unfold splitOf at h
  split at h
  · rename_i m f hA hP
    split at h
    · rename_i hc
      injection h with h
      injection h with h1 h2
      subst h1 h2
      exact ⟨hc.2.2.2, hc.2.2.1, (Lib.atoiAll_bounds hA).2, parseHex_lt hP⟩
    · cases h
  · cases h
theorem nameOf_len (n : Int) (x : Nat) (h0 : 0 ≤ n) (h1 : n ≤ 9223372036854775807) (hx : x < 18446744073709551616) : (nameOf n x).length ≤ 48 ∧ (beginOf n).length < (nameOf n x).length := by
  have h2 := beginOf_len n (by omega) h1
  have h3 := hexs_len 16 x (by omega) (by omega)
  have h4 := hexs_pos x
  simp only [nameOf, padOf, List.length_append, List.length_replicate]
  omega
/-- May a byte stand in a file's name? -/
def byteOk (b : UInt8) : Prop := (48 ≤ b.toNat ∧ b.toNat ≤ 57) ∨ (97 ≤ b.toNat ∧ b.toNat ≤ 122) ∨ b.toNat = 45 ∨ b.toNat = 46
theorem nameOf_ok (n : Int) (x : Nat) (h0 : 0 ≤ n) : ∀ b ∈ nameOf n x, byteOk b := by
  intro b hb
  have e1 : Lib.itoa n = Lib.decDigits n.toNat := by unfold Lib.itoa; rw [if_neg (by omega)]
  simp only [nameOf, beginOf, padOf, List.mem_append] at hb
  rcases hb with ((hb | hb) | hb) | hb | hb
  · have : ∀ y ∈ feedB, byteOk y := by unfold byteOk feedB; decide
    exact this b hb
  · rw [e1] at hb
    exact .inl (dec_digit _ _ hb)
  · rw [List.mem_singleton] at hb
    subst hb
    exact .inr (.inr (.inl rfl))
  · rw [List.mem_replicate] at hb
    rw [hb.2]
    exact .inl ⟨by decide, by decide⟩
  · rcases hexs_ok x b hb with h | h
    · exact .inl h
    · exact .inr (.inl h)
end Go.Proofs.YthgfdcbeajfojaaDoor
