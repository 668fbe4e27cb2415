/- Words on memory that all walks of this claim use: which blocks a call may have turned, and slices of bytes. -/
import Derived.Test.YthgfdcbeajfojaaDoorPlain1
import Derived.WalkKit
import Derived.Deep.AppendLies
import Derived.Deep.AppendSrc
import Derived.Maps.AppendAt
import Derived.Lib.Hide
import Derived.WalkLawsBesides
import Derived.WalkSpells
set_option autoImplicit false
namespace Go.Proofs.YthgfdcbeajfojaaDoor
open Go.RowKit

/-! ### 1. What may have turned -/
/-- Behind w the world is w', and of the blocks of w those alone have turned that are in S. -/
structure Mod (S : Nat → Prop) (w w' : World) : Prop where
  os : w'.os = w.os
  tape : w'.tape = w.tape
  output : w'.output = w.output
  size : w.heap.size ≤ w'.heap.size
  block : ∀ k, k < w.heap.size → ¬ S k → w'.heap[k]? = w.heap[k]?
def No : Nat → Prop := fun _ => False
/-- The block of a slice. -/
def Blk (v : Value) : Nat → Prop := fun k => v.ownBlock = some k

theorem Mod.refl (S : Nat → Prop) (w : World) : Mod S w w := ⟨rfl, rfl, rfl, Nat.le_refl _, fun _ _ _ => rfl⟩
theorem Mod.trans {S S' : Nat → Prop} {a b c : World} (h : Mod S a b) (k : Mod S' b c) (hs : ∀ i, i < a.heap.size → S' i → S i) : Mod S a c :=
  ⟨k.os.trans h.os, k.tape.trans h.tape, k.output.trans h.output, Nat.le_trans h.size k.size, fun i hi hn => (k.block i (Nat.lt_of_lt_of_le hi h.size) (fun x => hn (hs i hi x))).trans (h.block i hi hn)⟩
theorem Mod.mono {S S' : Nat → Prop} {a b : World} (h : Mod S a b) (hs : ∀ i, i < a.heap.size → S i → S' i) : Mod S' a b := ⟨h.os, h.tape, h.output, h.size, fun i hi hn => h.block i hi (fun x => hn (hs i hi x))⟩
theorem Mod.seq {S : Nat → Prop} {a b c : World} (h : Mod S a b) (k : Mod No b c) : Mod S a c := h.trans k (fun _ _ x => x.elim)
theorem Mod.any {S : Nat → Prop} {a b : World} (h : Mod No a b) : Mod S a b := h.mono (fun _ _ x => x.elim)
theorem Mod.alloc {S : Nat → Prop} {a b : World} (h : Mod S a b) (o : Obj) : Mod S a (b.alloc o) :=
  h.trans (S' := No) ⟨rfl, rfl, rfl, by simp, fun k hk _ => by
    show (b.heap.push o)[k]? = _
    rw [Array.getElem?_push_lt hk, Array.getElem?_eq_getElem hk]⟩ (fun _ _ x => x.elim)
theorem Mod.drew {S : Nat → Prop} {a b : World} (h : Mod S a b) : Mod S a b.drew := ⟨h.os, h.tape, h.output, h.size, h.block⟩
theorem Mod.drewN {S : Nat → Prop} {a b : World} (h : Mod S a b) (n : Nat) : Mod S a (b.drewN n) := ⟨h.os, h.tape, h.output, h.size, h.block⟩
theorem Mod.of_grown {a b : World} {row : Option Nat} (h : a.grownBy b row) : Mod (fun k => row = some k) a b := ⟨h.os, h.tape, h.output, h.size, fun i hi hn => h.block i hi (fun e => hn e.symm)⟩
theorem Mod.of_below {a b : World} (h : Below a.heap.size a b) : Mod No a b := ⟨h.os, h.tape, h.output, h.size, fun i hi _ => h.block i hi⟩
theorem Mod.below {a b : World} (h : Mod No a b) : Below a.heap.size a b := ⟨h.os, h.tape, h.output, h.size, fun i hi => h.block i hi (fun x => x)⟩
theorem Mod.setCell {S : Nat → Prop} {a b : World} (h : Mod S a b) (p : Addr) (v : Value) (hp : p.block < a.heap.size → S p.block) : Mod S a (b.setCell p v) := by
  refine ⟨h.os, h.tape, h.output, ?_, ?_⟩
  · simpa [World.setCell] using h.size
  · intro k hk hn
    rw [← h.block k hk hn]
    have hne : p.block ≠ k := fun e => hn (e ▸ hp (e ▸ hk))
    simp only [World.setCell]
    rw [Array.getElem?_modify]
    simp [hne]
theorem Mod.heap {S : Nat → Prop} {a b : World} (h : Mod S a b) {k : Nat} {o : Obj} (hk : a.heap[k]? = some o) (hn : ¬ S k) : b.heap[k]? = some o := by
  have hlt : k < a.heap.size := (Array.getElem?_eq_some_iff.1 hk).1
  rw [h.block k hlt hn, hk]

theorem heap_alloc_last (w : World) (o : Obj) : (w.alloc o).heap[w.heap.size]? = some o := by
  show (w.heap.push o)[w.heap.size]? = _
  simp
theorem heap_lt {w : World} {k : Nat} {o : Obj} (h : w.heap[k]? = some o) : k < w.heap.size := (Array.getElem?_eq_some_iff.1 h).1
theorem cell_of_heap {w : World} {b i : Nat} {c : Array Value} {t : TypeId} {fr : Nat × Nat} {v : Value} (h : w.heap[b]? = some (.cells c t fr)) (hv : c[i]? = some v) : w.cell? ⟨b, i, none⟩ = some v := by simp [World.cell?, h, hv]
theorem free_of_heap {w : World} {b i : Nat} {c : Array Value} {t : TypeId} (h : w.heap[b]? = some (.cells c t (0, 0))) : w.frozen? ⟨b, i, none⟩ = false := by simp [World.frozen?, h]

/-- A test of two ints, as the walk is to see it. -/
theorem beq_dec : ∀ a b : Int, (a == b) = decide (a = b) := fun a b => by rw [Bool.eq_iff_iff]; simp
/-- The same, decided ahead of the walk, and hidden from it. -/
theorem eqb (a b : Int) : ((a == b) = true ∧ Hid (a = b)) ∨ ((a == b) = false ∧ Hid (a ≠ b)) := by
  by_cases h : a = b
  · exact .inl ⟨by simp [h], h⟩
  · exact .inr ⟨by simp [h], h⟩
theorem neb (a b : Int) : ((a != b) = false ∧ Hid (a = b)) ∨ ((a != b) = true ∧ Hid (a ≠ b)) := by
  by_cases h : a = b
  · exact .inl ⟨by simp [h], h⟩
  · exact .inr ⟨by simp [h], h⟩

/-! ### 2. Bytes -/
def bcells (xs : Bytes) : List Value := xs.map fun b => Value.int .u8 b.toNat
theorem bcells_length (xs : Bytes) : (bcells xs).length = xs.length := by simp [bcells]
theorem bcells_append (xs ys : Bytes) : bcells (xs ++ ys) = bcells xs ++ bcells ys := by simp [bcells]
theorem bcells_get {xs : Bytes} {j : Nat} (h : j < xs.length) : (bcells xs)[j]? = some (.int .u8 (xs[j]).toNat) := by simp [bcells, h]
theorem bcells_one (xs : Bytes) : ∀ u ∈ bcells xs, u.oneCell' = true := by
  intro u hu
  simp only [bcells, List.mem_map] at hu
  obtain ⟨b, _, rfl⟩ := hu
  rfl
/-- A row of bytes of somebody's own: it begins a block, and none of it is marked; or nil. -/
def Own (w : World) (v : Value) (xs : Bytes) : Prop := w.ownsRow 0 5 1 v xs.length (bcells xs)
/-- Bytes that are read. -/
def Rd (w : World) (v : Value) (xs : Bytes) : Prop :=
  xs.length ≤ 9223372036854775807 ∧ ∃ A c, v = .slice A xs.length c ∧ xs.length ≤ c ∧ (A = none → c = 0 ∧ xs = []) ∧ ∀ ad, A = some ad → ad.block < w.heap.size ∧ ad.spot = none ∧ ∀ j u, (bcells xs)[j]? = some u → w.cell? (ad.add j) = some u

theorem Own.nil (w : World) : Own w (.slice none 0 0) [] := ⟨rfl, .inl ⟨rfl, rfl⟩⟩
theorem Own.mod {S : Nat → Prop} {w w' : World} {v : Value} {xs : Bytes} (h : Own w v xs) (hm : Mod S w w') (hn : ∀ k, Blk v k → ¬ S k) : Own w' v xs := by
  obtain ⟨h1, h2⟩ := h
  refine ⟨h1, ?_⟩
  rcases h2 with h2 | ⟨g, cap, cur, rfl, hg, hh, r⟩
  · exact .inl h2
  · exact .inr ⟨g, cap, cur, rfl, hg, hm.heap hh (hn g rfl), r⟩
theorem Own.lt {w : World} {v : Value} {xs : Bytes} (h : Own w v xs) : ∀ k, Blk v k → k < w.heap.size := by
  intro k hk
  rcases h.2 with ⟨rfl, _⟩ | ⟨g, cap, cur, rfl, hg, hh, r⟩
  · simp [Blk, Value.ownBlock] at hk
  · have : g = k := by simpa [Blk, Value.ownBlock] using hk
    exact this ▸ heap_lt hh
theorem cell?_lt {w : World} {a : Addr} {v : Value} (h : w.cell? a = some v) : a.block < w.heap.size := World.block_lt_of_cell? w a h
theorem Rd.mod {S : Nat → Prop} {w w' : World} {v : Value} {xs : Bytes} (h : Rd w v xs) (hm : Mod S w w') (hn : ∀ k, Blk v k → ¬ S k) : Rd w' v xs := by
  obtain ⟨h1, A, c, rfl, hc, h2, h3⟩ := h
  refine ⟨h1, A, c, rfl, hc, h2, fun ad e => ?_⟩
  subst e
  obtain ⟨h4, h5, h7⟩ := h3 ad rfl
  refine ⟨Nat.lt_of_lt_of_le h4 hm.size, h5, fun j u hu => ?_⟩
  have := h7 j u hu
  unfold World.cell? at this ⊢
  have hb : (ad.add j).block = ad.block := by unfold Addr.add; split <;> rfl
  rw [hb] at this ⊢
  rw [hm.block ad.block h4 (hn _ rfl)]
  exact this
theorem mod_of_heap {w w' : World} (S : Nat → Prop) (ho : w'.os = w.os) (ht : w'.tape = w.tape) (hu : w'.output = w.output) (hh : w'.heap = w.heap) : Mod S w w' := ⟨ho, ht, hu, by rw [hh]; exact Nat.le_refl _, fun _ _ _ => by rw [hh]⟩
/-- In a world of the same memory. -/
theorem Rd.of {w w' : World} {v : Value} {xs : Bytes} (h : Rd w v xs) (hh : w'.heap = w.heap) : Rd w' v xs := by
  unfold Rd World.cell? at *
  rw [hh]
  exact h
theorem Own.of {w w' : World} {v : Value} {xs : Bytes} (h : Own w v xs) (hh : w'.heap = w.heap) : Own w' v xs := by
  unfold Own World.ownsRow at *
  rw [hh]
  exact h
theorem Rd.lt {w : World} {v : Value} {xs : Bytes} (h : Rd w v xs) : ∀ k, Blk v k → k < w.heap.size := by
  obtain ⟨h1, A, c, rfl, hc, h2, h3⟩ := h
  intro k hk
  cases A with
  | none => simp [Blk, Value.ownBlock] at hk
  | some ad =>
    have : ad.block = k := by simpa [Blk, Value.ownBlock] using hk
    exact this ▸ (h3 ad rfl).1
theorem addr_add (g o j : Nat) : (⟨g, o, none⟩ : Addr).add j = ⟨g, o + j, none⟩ := by unfold Addr.add; split <;> simp_all
theorem Own.len {w : World} {v : Value} {xs : Bytes} (h : Own w v xs) : xs.length ≤ 9223372036854775807 := by
  rcases h.2 with ⟨_, h0⟩ | ⟨g, cap, cur, _, _, _, h1, h2, _⟩
  · omega
  · simp only [maxLen] at h2; omega
theorem Own.rd {w : World} {v : Value} {xs : Bytes} (h : Own w v xs) : Rd w v xs := by
  have hl := h.len
  rcases h.2 with ⟨rfl, h0⟩ | ⟨g, cap, cur, rfl, hg, hh, h1, h2, h3, h4⟩
  · obtain rfl : xs = [] := List.eq_nil_of_length_eq_zero h0
    exact ⟨hl, none, 0, rfl, Nat.le_refl _, fun _ => ⟨rfl, rfl⟩, fun ad e => by simp at e⟩
  · refine ⟨hl, some ⟨g, 0, none⟩, cap, rfl, h1, fun e => by simp at e, fun ad e => ?_⟩
    obtain rfl : ⟨g, 0, none⟩ = ad := by simpa using e
    refine ⟨heap_lt hh, rfl, fun j u hu => ?_⟩
    rw [addr_add, Nat.zero_add]
    refine cell_of_heap hh ?_
    rw [← h4] at hu
    rw [List.getElem?_take] at hu
    split at hu
    · simpa using hu
    · simp at hu

/-- A part of a slice, from l to h, of elements of s cells: its address isn't looked into by the walks. -/
def cutS (A : Option Addr) (l h c s : Nat) : Value := .slice (if c = l then A else A.map (·.add (l * s))) (h - l) (c - l)
theorem sliced_cut (A : Option Addr) (l h c s : Nat) : sliced A l h c s = cutS A l h c s := rfl
theorem Rd.part {w : World} {A : Option Addr} {n c l h : Nat} {xs : Bytes} (hr : Rd w (.slice A n c) xs) (h0 : l ≤ h) (h1 : h ≤ xs.length) : Rd w (cutS A l h c 1) ((xs.take h).drop l) := by
  obtain ⟨h2, A', c', e, hc, h4, h5⟩ := hr
  injection e with e1 e2 e3
  subst e1 e2 e3
  have hlen : ((xs.take h).drop l).length = h - l := by rw [List.length_drop, List.length_take]; omega
  refine ⟨by omega, if c = l then A else A.map (·.add (l * 1)), c - l, by rw [hlen]; rfl, by omega, ?_, ?_⟩
  · intro hA
    split at hA
    · obtain ⟨rfl, rfl⟩ := h4 hA
      simp
    · cases A with
      | none =>
        obtain ⟨rfl, rfl⟩ := h4 rfl
        simp
      | some ad => simp at hA
  · intro ad hA
    have key : ∀ a0, A = some a0 → ∀ j u, (bcells ((xs.take h).drop l))[j]? = some u → w.cell? (a0.add (l + j)) = some u := by
      intro a0 ha j u hu
      refine (h5 a0 ha).2.2 (l + j) u ?_
      simp only [bcells, List.map_drop, List.map_take, List.getElem?_drop, List.getElem?_take] at hu ⊢
      split at hu
      · exact hu
      · simp at hu
    split at hA
    · rename_i hcl
      obtain ⟨g1, g2, g3⟩ := h5 ad hA
      refine ⟨g1, g2, fun j u hu => ?_⟩
      have hj := (List.getElem?_eq_some_iff.1 hu).1
      rw [bcells_length, hlen] at hj
      omega
    · cases A with
      | none => simp at hA
      | some a0 =>
        obtain ⟨g1, g2, g3⟩ := h5 a0 rfl
        obtain rfl : a0.add (l * 1) = ad := by simpa using hA
        obtain ⟨b, o, sp⟩ := a0
        obtain rfl : sp = none := g2
        rw [addr_add]
        refine ⟨g1, rfl, fun j u hu => ?_⟩
        have := key _ rfl j u hu
        rw [addr_add] at this
        rw [addr_add, show o + l * 1 + j = o + (l + j) from by omega]
        exact this
theorem Rd.rest {w : World} {A : Option Addr} {n c l : Nat} {xs : Bytes} (hr : Rd w (.slice A n c) xs) (h : l < xs.length) : Rd w (cutS A (l + 1) n c 1) (xs.drop (l + 1)) := by
  obtain ⟨_, _, _, e, _⟩ := id hr
  injection e with _ e _
  subst e
  have := hr.part (l := l + 1) (h := xs.length) (by omega) (Nat.le_refl _)
  rwa [List.take_length] at this
theorem cut_blk {A : Option Addr} {n c l h : Nat} {k : Nat} (hk : Blk (cutS A l h c 1) k) : Blk (.slice A n c) k := by
  unfold Blk cutS Value.ownBlock at *
  cases A with
  | none => split at hk <;> simp_all
  | some ad =>
    simp only at hk ⊢
    split at hk
    · rename_i a _ _ e
      injection e with e1 e2 e3
      split at e1
      · injection e1 with e1; rw [e1]; exact hk
      · simp only [Option.map_some, Option.some.injEq] at e1
        rw [← e1] at hk
        have : (ad.add (l * 1)).block = ad.block := by unfold Addr.add; split <;> rfl
        rw [this] at hk
        exact hk
    · simp at hk
/-- A byte of a slice that is read. -/
theorem Rd.at_ {w : World} {v : Value} {xs : Bytes} (h : Rd w v xs) (h0 : xs ≠ []) : ∃ b o c, v = .slice (some ⟨b, o, none⟩) xs.length c ∧ xs.length ≤ c ∧ b < w.heap.size ∧ ∀ j (hj : j < xs.length), w.cell? ⟨b, o + j, none⟩ = some (.int .u8 (xs[j]).toNat) := by
  obtain ⟨h1, A, c, rfl, hc, h2, h3⟩ := h
  cases A with
  | none => exact absurd (h2 rfl).2 h0
  | some ad =>
    obtain ⟨g1, g2, g3⟩ := h3 ad rfl
    obtain ⟨b, o, sp⟩ := ad
    obtain rfl : sp = none := g2
    refine ⟨b, o, c, rfl, hc, g1, fun j hj => ?_⟩
    have := g3 j _ (bcells_get hj)
    rwa [addr_add] at this
theorem Rd.nil_or {w : World} {v : Value} {xs : Bytes} (h : Rd w v xs) : ∃ A c, v = .slice A xs.length c ∧ xs.length ≤ c ∧ xs.length ≤ 9223372036854775807 := by
  obtain ⟨h1, A, c, rfl, hc, h2, h3⟩ := h
  exact ⟨A, c, rfl, hc, h1⟩

/-- Behind an append, or a call that appends: only the row's own block has turned, and the new row lies there or in a new block. -/
structure Grew (w w' : World) (v v' : Value) : Prop where
  mod : Mod (Blk v) w w'
  lies : ∀ k, Blk v' k → Blk v k ∨ w.heap.size ≤ k
theorem Grew.refl (w : World) (v : Value) : Grew w w v v := ⟨Mod.refl _ _, fun _ h => .inl h⟩
theorem Grew.trans {a b c : World} {u v x : Value} (h : Grew a b u v) (k : Grew b c v x) : Grew a c u x :=
  ⟨h.mod.trans k.mod (fun i hi hv => (h.lies i hv).resolve_right (by omega)), fun i hi => by
    rcases k.lies i hi with h1 | h1
    · exact h.lies i h1
    · exact .inr (Nat.le_trans h.mod.size h1)⟩
theorem Grew.step {a b c : World} {u v : Value} (h : Grew a b u v) (k : Mod No b c) : Grew a c u v := ⟨h.mod.seq k, h.lies⟩
theorem Grew.pre {a b c : World} {u v : Value} (k : Mod No a b) (h : Grew b c u v) : Grew a c u v :=
  ⟨k.any.trans h.mod (fun _ _ x => x), fun i hi => (h.lies i hi).imp_right (Nat.le_trans k.size)⟩
theorem Own.lit (w : World) (xs : Bytes) (cs : Array Value) (h : cs.toList = bcells xs) (hl : xs.length ≤ 140737488355328) : Own (w.alloc (.cells cs 5)) (.slice (some ⟨w.heap.size, 0, none⟩) xs.length xs.length) xs := by
  have hs : cs.size = xs.length := by rw [← Array.length_toList, h, bcells_length]
  refine ⟨by rw [bcells_length]; omega, .inr ⟨w.heap.size, xs.length, cs, rfl, Nat.zero_le _, heap_alloc_last w _, Nat.le_refl _, by simp only [maxLen]; omega, by omega, ?_⟩⟩
  rw [h, List.take_of_length_le (by rw [bcells_length]; omega)]
theorem Grew.fresh {w w' : World} {v : Value} (u : Value) (hm : Mod No w w') (h : ∀ k, Blk v k → w.heap.size ≤ k) : Grew w w' u v := ⟨hm.any, fun k hk => .inr (h k hk)⟩
theorem blk_at {g n c k : Nat} (h : Blk (.slice (some ⟨g, 0, none⟩) n c) k) : k = g := by simpa [Blk, Value.ownBlock] using h.symm
theorem blk_nil {n c k : Nat} (h : Blk (.slice none n c) k) : False := by simp [Blk, Value.ownBlock] at h
end Go.Proofs.YthgfdcbeajfojaaDoor
