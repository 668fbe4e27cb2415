/- Proved: anabranchlaw08.SegmentNames returns true for every input, and its arguments read afterwards as before. Conditions: the five listed variables of Go's library (math/bits' two tables, internal/strconv's table, strconv.ErrRange, strconv.ErrSyntax) start as the program's text lays them, which the card ties to a pruned copy of the program; internal/bytealg.MaxLen may hold any value. -/
import Derived.Test.YthgfdcbeajfojaaDoorNames
import Derived.Test.YthgfdcbeajfojaaDoorCards
import Derived.Test.YthgfdcbeajfojaaDoorTie
import Derived.ProofKit
import Derived.OpenShut
import Derived.Deep.DeepHandedRow
import Derived.Deep.DeepWitnessRowRef
import Derived.Lib.LaidU8
import Derived.Lib.LaidTab
import Derived.Stop.LaidErr
set_option autoImplicit false
namespace Go.Proofs.YthgfdcbeajfojaaDoor.segmentNames
open Go.ChangeShapes Go.WideShapes Go.ChangeAt Go.RowKit
open Go.ChangeMaps (open_string shut_string)

theorem own : ownKnob Tryd.prog.godebug = none := by kernel_rfl
/-- A listed table of integers, wherever it stands on the list. -/
theorem tab_of {w : World} {n : String} {k : IntKind} {zs : List Int} {l : List (String × DataW Unit)} (g : Nat) (t e : TypeId) (m : Nat) (hL : laidMet Tryd.prog l w) (hm : (n, Lib.tabData k zs) ∈ l)
    (hg : Tryd.prog.globalNamed n = some g) (hty : (Tryd.prog.globals[g]?).map (·.type) = some t) (ht : Tryd.prog.underlying t = some (.array m e)) (he : Tryd.prog.underlying e = some (.int k)) (hce : Tryd.prog.cellsOf e = 1) (hct : Tryd.prog.cellsOf t = m) :
    Lib.TabIs Tryd.prog w n k zs := by
  obtain ⟨g', t', cs, fuel, p, hg', ht', hvar, hd⟩ := Lib.laidMet.reads hL hm
  obtain rfl := Option.some.inj (hg.symm.trans hg')
  obtain rfl := Option.some.inj (hty.symm.trans ht')
  unfold Lib.TabIs
  rw [hvar, ← Lib.cells_of_tab ht he hce hct hd]
def tab32 : List Int := [0, 1, 28, 2, 29, 14, 24, 3, 30, 22, 20, 15, 25, 17, 4, 8, 31, 27, 13, 23, 21, 19, 16, 7, 26, 12, 18, 6, 11, 5, 10, 9]
def tab64 : List Int := [0, 1, 56, 2, 57, 49, 28, 3, 61, 58, 42, 50, 38, 29, 17, 4, 62, 47, 59, 36, 45, 43, 51, 22, 53, 39, 33, 30, 24, 18, 12, 5, 63, 55, 48, 27, 60, 41, 37, 16, 46, 35, 44, 21, 52, 32, 23, 11, 54, 26, 40, 15, 34, 20, 31, 10, 25, 14, 19, 9, 13, 8, 7, 6]
theorem bru_is : (Rows.laid_math_bits_deBruijn64tab : DataW Unit) = Lib.tabData .u8 tab64 := by kernel_rfl
theorem pow_is : (Rows.laid_internal_strconv_uint64pow10 : DataW Unit) = Lib.tabData .u64 Lib.pow10Tab := by kernel_rfl
theorem star : "*" ++ "errors.errorString" = "*errors.errorString" := by decide
theorem errType (u : TypeId) (h : Tryd.prog.typeName? 3 u = some "*errors.errorString") : u = 94 :=
  typeName_ptr_named (nm := "errors.errorString") (by rw [star]; kernel_rfl) (by kernel_rfl) (by decide) u (by rw [star]; exact h)
/-- WHAT THE ROW's LIST GIVES. -/
theorem vars {W : World} (hL : laidMetH Tryd.prog Rows.segmentNamesRow.laid W) (hsh : W.ShapedOpen Tryd.prog) : Vars W := by
  have hL' : laidMet Tryd.prog Rows.segmentNamesRow.laid W := hL
  obtain ⟨a1, s1, hr, -, -, -⟩ := laid_sentinel (P := Tryd.prog) (g := 3) hL'.tail.tail.tail (by kernel_rfl) (by kernel_rfl) Tryd.underlying37 errType Tryd.underlying94 Tryd.underlying96 rfl rfl Tryd.underlying9 (by kernel_rfl) (by kernel_rfl)
  obtain ⟨a2, s2, hs, -, -, -⟩ := laid_sentinel (P := Tryd.prog) (g := 2) hL'.tail.tail.tail.tail (by kernel_rfl) (by kernel_rfl) Tryd.underlying37 errType Tryd.underlying94 Tryd.underlying96 rfl rfl Tryd.underlying9 (by kernel_rfl) (by kernel_rfl)
  refine ⟨⟨94, .pointer (some a2), ?_⟩, ⟨94, .pointer (some a1), ?_⟩, ?_, ?_, ?_⟩
  · exact (by simpa using World.var?_cell (show Tryd.prog.globalNamed "strconv.ErrSyntax" = some 2 by kernel_rfl) hs 0)
  · exact (by simpa using World.var?_cell (show Tryd.prog.globalNamed "strconv.ErrRange" = some 3 by kernel_rfl) hr 0)
  · exact (tab_of (zs := tab64) 5 98 5 64 hL' (by rw [← bru_is]; exact .tail _ (.head _)) (by kernel_rfl) (by kernel_rfl) Tryd.underlying98 Tryd.underlying5 (by kernel_rfl) (by kernel_rfl)).cell (by kernel_rfl) 15 (by decide)
  · exact tab_of (zs := Lib.pow10Tab) 0 80 22 20 hL' (by rw [← pow_is]; exact .tail _ (.tail _ (.head _))) (by kernel_rfl) (by kernel_rfl) Tryd.underlying80 Tryd.underlying22 (by kernel_rfl) (by kernel_rfl)
  · exact Tryd.laysM219.s1_3 W hsh

/-- WHAT THE WALK GIVES. -/
theorem contract (H : Type) (enc : TypeId × Value → H) (W : World) (base : Nat) (args : Array Value) (ds gs : List (DataW H)) (before : List MemPlace)
    (hval : ∀ (j : Nat) t v, Tryd.f3.params[j]? = some t → args[j]? = some v → Value.okWide Tryd.prog W .any base t v)
    (hW : DataW.Whole enc Tryd.prog Tryd.f3.params.toList Rows.segmentNamesSpec.vars false W args.toList ds gs before) (hL : laidMetH Tryd.prog Rows.segmentNamesRow.laid W) (hsh : W.ShapedOpen Tryd.prog) :
    Calls Tryd.prog 3 args W fun e W' => ∃ v, e = .returned v ∧ Rows.segmentNamesSpec.post enc Tryd.prog Tryd.f3 false true false false W args v W' := by
  have hW' := hW
  obtain ⟨p, q, hA0, hV, rfl, hfz, hnd⟩ := hW
  have hA : DataW.TrodAll enc Tryd.prog W 0 (fun _ => true) true Tryd.f3.params.toList args.toList ds p := hA0
  rw [Tryd.params3] at hA hval
  obtain ⟨v0, vs0, d0, ds0, p0, q0, hargs0, rfl, rfl, h0, r0⟩ := trodAll_cons hA
  obtain ⟨v1, vs1, d1, ds1, p1, q1, hargs1, rfl, rfl, h1, r1⟩ := trodAll_cons r0
  obtain ⟨v2, vs2, d2, ds2, p2, q2, hargs2, rfl, rfl, h2, r2⟩ := trodAll_cons r1
  obtain ⟨rfl, rfl, rfl⟩ := trodAll_nil r2
  obtain rfl : args = #[v0, v1, v2] := by cases args; simp_all
  obtain ⟨rfl, rfl⟩ := trodVars_none hV
  obtain ⟨n, rfl, rfl, rfl, wn⟩ := open_int Tryd.underlying5 (hval 0 5 v0 rfl rfl) h0
  obtain ⟨x, rfl, rfl, rfl, wx⟩ := open_int Tryd.underlying22 (hval 1 22 v1 rfl rfl) h1
  obtain ⟨s, rfl, rfl, rfl, ws⟩ := open_string Tryd.underlying9 (hval 2 9 v2 rfl rfl) h2
  clear hA0
  simp only [List.append_nil] at hW'
  have hn : 0 ≤ n ∧ n < 256 := by
    have e1 : IntKind.u8.min = 0 := rfl
    have e2 : IntKind.u8.max = 255 := rfl
    simp [Lit.wf, e1, e2] at wn
    omega
  have hx : 0 ≤ x ∧ x < 18446744073709551616 := by
    have e1 : IntKind.u64.min = 0 := rfl
    have e2 : IntKind.u64.max = 18446744073709551615 := rfl
    simp [Lit.wf, e1, e2] at wx
    omega
  obtain ⟨n', rfl⟩ : ∃ n' : Nat, n = n' := ⟨n.toNat, by omega⟩
  obtain ⟨x', rfl⟩ : ∃ x' : Nat, x = x' := ⟨x.toNat, by omega⟩
  refine (SegmentNames_any W n' x' s (vars hL hsh) (by omega) (by omega)).mono fun e W' ⟨he, hm⟩ => ?_
  subst he
  refine ⟨_, rfl, _, _, _, [], [], [], hW', ?_, ?_, ?_, hm.below.frame _, fun h => by cases h⟩
  · exact trodAll_mk1 (shut_bool Tryd.underlying4 true)
  · exact trodAll_cons_mk (shut_int Tryd.underlying5 wn) (trodAll_cons_mk (shut_int Tryd.underlying22 wx) (trodAll_cons_mk (shut_string Tryd.underlying9 ws) trodAll_mk0))
  · rfl

/-! ### One start that fits -/
abbrev synS : ByteArray := ⟨#[105, 110, 118, 97, 108, 105, 100, 32, 115, 121, 110, 116, 97, 120]⟩
abbrev rngS : ByteArray := ⟨#[118, 97, 108, 117, 101, 32, 111, 117, 116, 32, 111, 102, 32, 114, 97, 110, 103, 101]⟩
/-- So many blocks has the settled world. -/
noncomputable def low : Nat := (World.holding Tryd.prog default ⟨#[], #[], []⟩).heap.size
noncomputable def put (h : Array Obj) (g : Nat) (cs : Array Value) : Array Obj := h.modify g fun
  | .cells _ t frozen => .cells cs t frozen
  | o => o
/-- The settled world with two blocks more, each an errors.errorString; the five variables hold what their initialisers lay. -/
noncomputable def laidWorld (os : Os) : World :=
  let w0 := World.holding Tryd.prog os ⟨#[.cells #[.string rngS] 96, .cells #[.string synS] 96], #[], []⟩
  { w0 with heap := put (put (put (put (put w0.heap 4 (tab32.map fun z => Value.int .u8 z).toArray) 5 (tab64.map fun z => Value.int .u8 z).toArray) 0 (Lib.pow10Tab.map fun z => Value.int .u64 z).toArray)
      3 #[.iface 94 (.pointer (some ⟨low, 0, none⟩))]) 2 #[.iface 94 (.pointer (some ⟨low + 1, 0, none⟩))] }
theorem laid_met (os : Os) (args : Array Value) : laidMet Tryd.prog Rows.segmentNamesRow.laid ((laidWorld os).forCall (fun _ _ => 0) ⟨#[], args, []⟩).memory :=
  laidMet_of_run' 8 (by kernel_rfl) (by kernel_rfl)
theorem reads (os : Os) {H : Type} (enc : TypeId × Value → H) : ∃ places, DataW.whole enc Tryd.prog ((laidWorld os).forCall (fun _ _ => 0) ⟨#[], #[.int .u8 0, .int .u64 0, .string ⟨#[]⟩], []⟩).memory Tryd.f3.params.toList Rows.segmentNamesSpec.vars false #[Value.int .u8 0, Value.int .u64 0, Value.string ⟨#[]⟩].toList 8 = some ([.lit (.int .u8 0), .lit (.int .u64 0), .lit (.string [])], [], places) :=
  ⟨[], by kernel_rfl⟩
set_option maxRecDepth 100000 in
theorem lifted (os : Os) (started : os.Started) (H : Type) (enc : TypeId × Value → H) (F : Stop.Interp) :
    ReturnsInHanded {} Tryd.checked os 3 .any ((OpenSpec.ofChange Rows.segmentNamesSpec).preRow enc Tryd.prog Tryd.f3 Rows.segmentNamesRow.domain false Rows.segmentNamesRow.laid) (((OpenSpec.ofChange Rows.segmentNamesSpec).at F).post enc Tryd.prog Tryd.f3 false true false false) := by
  obtain ⟨places, hx⟩ := reads os enc
  refine returnsInHanded_of_row (C := Tryd.checked) (s := OpenSpec.ofChange Rows.segmentNamesSpec) own started (by kernel_rfl) Tryd.func3
    (witness_row_atRef (enc := enc) (C := Tryd.checked) false (laidWorld os) #[.int .u8 0, .int .u64 0, .string ⟨#[]⟩] rfl (by kernel_rfl) (by kernel_rfl) (by kernel_rfl)
      (OpenSpec.preRow_of_cond 8 hx (by kernel_rfl) (fun k hk => by cases hk) (by kernel_rfl) (laid_met os _))) ?_
  intro W base args ds gs before hval hW _ _ _ hL hsh _
  exact contract H enc W base args ds gs before hval hW hL hsh
theorem said : Rows.SegmentNamesSaid :=
  OpenClaim.holds_of_cond 3 Tryd.f3 rfl rfl rfl rfl rfl rfl rfl ⟨rfl, rfl, rfl, rfl, rfl⟩ rfl rfl rfl rfl rfl (by kernel_rfl) Tryd.func3 (by kernel_rfl)
    (of_decide_eq_true (by kernel_rfl)) (by unfold Func.isWrapper; first | (rw [if_pos (by decide +kernel)]; kernel_rfl) | (rw [if_neg (by decide +kernel)]; exact ⟨rfl, rfl⟩))
    (fun os started H enc _ F => by rw [OpenClaim.pre_eq_preRow]; exact lifted os started H enc F)
/-- What the card asks of the parameters. -/
theorem plain (f : FuncId) (fn : Func) (hf : Tryd.pinned.checked.prog.funcNamed "anabranch/anabranchlaw08.SegmentNames" = some f) (hfn : Tryd.pinned.checked.prog.funcs[f]? = some fn) :
    true = Tryd.pinned.checked.prog.looks [] ∧ ∀ (j : Nat) t, fn.params[j]? = some t → Tryd.pinned.checked.prog.wantsStandIn t = false := by
  obtain rfl : f = 3 := Option.some.inj ((show Tryd.prog.funcNamed "anabranch/anabranchlaw08.SegmentNames" = some 3 by kernel_rfl).symm.trans hf) |>.symm
  obtain rfl : fn = Tryd.f3 := (Option.some.inj (Tryd.func3.symm.trans hfn)).symm
  refine ⟨by kernel_rfl, fun j t ht => ?_⟩
  rw [Tryd.params3] at ht
  have h3 : t = 5 ∨ t = 22 ∨ t = 9 := by simpa using Array.mem_of_getElem? ht
  rcases h3 with rfl | rfl | rfl
  · exact (show Tryd.prog.wantsStandIn 5 = false by kernel_rfl)
  · exact (show Tryd.prog.wantsStandIn 22 = false by kernel_rfl)
  · exact (show Tryd.prog.wantsStandIn 9 = false by kernel_rfl)
/-- THE CARD. -/
theorem card : Rows.SegmentNamesCardSaid :=
  Claim7.holds_tied_plain_at .later [] _ _ _ _ said (fun _ h => by cases h) (by kernel_rfl) (fun _ h => by cases h) segmentNames_row_tie rfl ⟨rfl, rfl⟩ (by kernel_rfl) rfl plain (by kernel_rfl)
end Go.Proofs.YthgfdcbeajfojaaDoor.segmentNames
