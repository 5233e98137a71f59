/- SpanGrows: FOR EVERY INPUT THE LAW SpanGrows RETURNS TRUE, and each argument reads behind the call as it read before: the tied card, with the listed package-level variables as the program's text lays them. -/
import Derived.Test.YtemfhipofgafiaaGreatDoorLawGrows
import Derived.Test.YtemfhipofgafiaaGreatDoorGrowsOpen
import Derived.Test.YtemfhipofgafiaaGreatDoorRows
import Derived.Test.YtemfhipofgafiaaGreatDoorTie
import Derived.Test.YtemfhipofgafiaaGreatDoorCards
import Derived.ProofKit
import Derived.LaidMore
import Derived.OpenShut
import Derived.Stop.Joined
import Derived.Deep.Slices
import Derived.SevenTiedAt
set_option linter.unusedVariables false
set_option linter.unusedSimpArgs false
namespace Go.Proofs.YtemfhipofgafiaaGreatDoor
open Go.ChangeShapes Go.WideShapes Go.ChangeAt Go.RowKit

theorem Tryz.own : ownKnob Tryz.prog.godebug = none := by kernel_rfl
theorem Tryz.laidOut : laidOutB Tryz.prog = true := by kernel_rfl
def laid3 {H : Type} : List (String × DataW H) := [("math/bits.deBruijn32tab", Rows.laid_math_bits_deBruijn32tab), ("math/bits.deBruijn64tab", Rows.laid_math_bits_deBruijn64tab), ("internal/strconv.uint64pow10", Rows.laid_internal_strconv_uint64pow10)]
set_option maxRecDepth 100000 in
theorem door_met (os : Os) (args : Array Value) : laidMetH Tryz.prog laid3 ((World.doorLaid Tryz.prog 400 os).forCall (fun _ _ => 0) ⟨#[], args, []⟩).memory :=
  laidMetH_of_parts3 (fuel := 8) (laidMet_of_run' 8 (by kernel_rfl) (by kernel_rfl)) (by kernel_rfl) (by kernel_rfl)

set_option maxRecDepth 100000 in
theorem grows_lifted (os : Os) (started : os.Started) (H : Type) (enc : TypeId × Value → H) :
    ReturnsInHanded {} Tryz.checked os 12 .any (fun w args => (Rows.spanGrowsSpec.pre enc Tryz.prog Tryz.f12 [] false w args ∧ laidMetH Tryz.prog laid3 w) ∧ sizedMet enc Tryz.prog Tryz.f12 (OpenSpec.ofChange Rows.spanGrowsSpec) false w args)
      (Rows.spanGrowsSpec.post enc Tryz.prog Tryz.f12 false true false false) := by
  refine returnsInHanded_of_change_and (C := Tryz.checked) (X := fun w _ => laidMetH Tryz.prog laid3 w) (fun _ _ _ hh h => h.of_heap hh) Tryz.own started (by kernel_rfl) Tryz.func12
    (ChangeSpec.witness_shaped (enc := enc) (C := Tryz.checked) (os := os) (X := fun w _ => laidMetH Tryz.prog laid3 w) false (World.doorLaid Tryz.prog 400 os) #[.int .u64 0, .slice none 0 0, .agg #[.int .u64 0, .int .u32 0, .int .u32 0, .int .i64 0, .int .u64 0, .int .u32 0, .int .u32 0]] 8 rfl (World.shaped_of_RefB (by kernel_rfl) (by kernel_rfl)) (by kernel_rfl) (by kernel_rfl) (by kernel_rfl) (door_met os _)) ?_
  intro W base args ds gs before hval0 hW _ _ hL _
  have hval : ∀ (j : Nat) t v, Tryz.f12.params[j]? = some t → args[j]? = some v → Value.okWide Tryz.prog W .any base t v := hval0
  have hW' := hW
  obtain ⟨p, q, hA0, hV, rfl, hfz, hnd⟩ := hW
  have hA : DataW.TrodAll enc Tryz.prog W 0 (fun _ => true) true Tryz.f12.params.toList args.toList ds p := hA0
  rw [Tryz.params12] at hA hval
  obtain ⟨v0, v1, v2, d0, d1, d2, p0, p1, p2, rfl, rfl, rfl, h0, h1, h2⟩ := trodAll_three hA
  obtain ⟨rfl, rfl⟩ := trodVars_none hV
  obtain ⟨t0, rfl, rfl, rfl, w0⟩ := open_int Tryz.underlying22 (hval 0 22 v0 rfl rfl) h0
  have h1k := h1
  have h2k := h2
  obtain ⟨fuel1, h1⟩ := h1
  obtain ⟨fuel2, h2⟩ := h2
  clear hA0 hval0
  simp only [List.append_nil, List.nil_append] at hW'
  have hlt : ∀ x ∈ p1 ++ p2, x.block < W.heap.size := fun x hx => by simpa using hW'.lt x hx
  have hargs1 : ∀ (W' : World), Below W.heap.size W W' → DataW.Trod enc Tryz.prog W' 0 (fun b => decide (b < W.heap.size)) true 93 v1 d1 p1 :=
    fun W' hn => Below.trod Tryz.laidOut (by kernel_rfl) (of_decide_eq_true (by kernel_rfl)) h1k hn (fun x hx => hlt x (List.mem_append_left _ hx))
  have hargs2 : ∀ (W' : World), Below W.heap.size W W' → DataW.Trod enc Tryz.prog W' 0 (fun b => decide (b < W.heap.size)) true 95 v2 d2 p2 :=
    fun W' hn => Below.trod Tryz.laidOut (by kernel_rfl) (of_decide_eq_true (by kernel_rfl)) h2k hn (fun x hx => hlt x (List.mem_append_right _ hx))
  obtain ⟨it, hit⟩ := item_of h2
  have hv2 : v2 = .agg #[.int .u64 it.t, .int .u32 it.r, .int .u32 it.x, .int .i64 it.i, .int .u64 it.u, .int .u32 it.s, .int .u32 it.y] := by
    cases v2 with
    | agg c =>
      simp only [Value.cells] at hit
      exact congrArg Value.agg (Array.toList_inj.1 hit)
    | _ => simp [Value.cells, It.cells] at hit
  subst hv2
  have fin : ∀ (ao : Option Addr) (cap : Nat) (l : List It), v1 = .slice ao l.length cap → l.length ≤ 9223372036854775807 → (ao = none → cap = 0) → At W ao (cellsI l) →
      Calls Tryz.checked.prog 12 #[.int .u64 t0, v1, .agg #[.int .u64 it.t, .int .u32 it.r, .int .u32 it.x, .int .i64 it.i, .int .u64 it.u, .int .u32 it.s, .int .u32 it.y]] W fun e W' => ∃ v, e = Ending.returned v ∧ Rows.spanGrowsSpec.post enc Tryz.prog Tryz.f12 false true false false W #[.int .u64 t0, v1, .agg #[.int .u64 it.t, .int .u32 it.r, .int .u32 it.x, .int .i64 it.i, .int .u64 it.u, .int .u32 it.s, .int .u32 it.y]] v W' := by
    intro ao cap l e1 hbig hnone hc
    subst e1
    refine (law_Grows t0 ao cap l it.t it.r it.x it.i it.u it.s it.y W hbig hnone hc).mono fun e W' ⟨he, hnx⟩ => ?_
    subst he
    refine ⟨_, rfl, _, _, _, [], p1 ++ p2, [], hW', trodAll_mk1 (shut_bool Tryz.underlying4 _), trodAll_mk3 (shut_int Tryz.underlying22 w0) (hargs1 _ hnx) (hargs2 _ hnx), rfl, hnx.frame _, fun h => by cases h⟩
  rcases Deep.open_slice Tryz.underlying93 h1 with ⟨hcs, _⟩ | ⟨a, len, cap, m, n, D, Pl, hcs, _, hl, hm, hmm, _, hx⟩
  · have hv1 : v1 = .slice none ([] : List It).length 0 := by
      obtain ⟨a0, len0, cap0, hv⟩ := okWide_slice Tryz.underlying93 (hval 1 93 v1 rfl rfl)
      subst hv
      simpa [Value.cells] using hcs
    exact fin none 0 [] hv1 (by simp) (fun _ => rfl) (fun j u hj => by simp [cellsI] at hj)
  · have hv1 : v1 = .slice (some a) len cap := by
      obtain ⟨a0, len0, cap0, hv⟩ := okWide_slice Tryz.underlying93 (hval 1 93 v1 rfl rfl)
      subst hv
      simpa [Value.cells] using hcs
    simp only [if_true] at hmm
    obtain ⟨f, hf⟩ := Deep.choose_lt (n := len) (p := fun i (x : It) => ∀ o, o < 7 → W.cell? (a.add (i * 7 + o)) = x.cells[o]?) (fun i hi => by
      obtain ⟨cs', k1, k2⟩ := hx i (by omega)
      rw [cells_item] at k1
      obtain ⟨x, rfl⟩ := item_of k2
      obtain ⟨_, _, k3⟩ := World.cells?_some k1
      exact ⟨x, fun o ho => by rw [← k3 o ho, add_add]⟩)
    have hlen : ((List.range len).map f).length = len := by simp
    refine fin (some a) cap ((List.range len).map f) (by rw [hlen]; exact hv1) (by rw [hlen]; unfold maxLen at hm; omega) (fun h => by cases h) (fun j u hj => ⟨a, rfl, ?_⟩)
    obtain ⟨i, o, x, k1, k2, rfl, k3⟩ := cellsI_inv _ _ _ hj
    have hi : i < len := by
      have := (List.getElem?_eq_some_iff.1 k1).1
      simpa using this
    have e : x = f i := by
      simp [List.getElem?_map, List.getElem?_range hi] at k1
      exact k1.symm
    subst e
    rw [hf i hi o k3]
    exact k2

theorem grows_holds : Rows.SpanGrowsSaid :=
  OpenClaim.holds_of_wide 12 Tryz.f12 rfl rfl rfl rfl rfl rfl rfl ⟨rfl, rfl, rfl, rfl, rfl⟩ rfl rfl rfl rfl rfl (by kernel_rfl) Tryz.func12 (by kernel_rfl)
    (of_decide_eq_true (by kernel_rfl)) (by unfold Func.isWrapper; first | (rw [if_pos (by decide +kernel)]; kernel_rfl) | (rw [if_neg (by decide +kernel)]; exact ⟨rfl, rfl⟩))
    (fun os started H enc _ => grows_lifted os started H enc)
end Go.Proofs.YtemfhipofgafiaaGreatDoor
