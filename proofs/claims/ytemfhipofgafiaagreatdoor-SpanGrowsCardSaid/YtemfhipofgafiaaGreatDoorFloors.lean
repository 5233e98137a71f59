/- pos.Floors: THE LEAST AND THE GREATEST DIFFERENCE. -/
import Derived.Test.YtemfhipofgafiaaGreatDoorPos
import Derived.WalkKit
set_option linter.unusedVariables false
set_option linter.unusedSimpArgs false
namespace Go.Proofs.YtemfhipofgafiaaGreatDoor
open Go.RowKit


/-- The cells of positions. -/
def cellsP (ps : List (Int × Int × Int)) : List Value := ps.flatMap fun p => [.int .u64 p.1, .int .u32 p.2.1, .int .u32 p.2.2]
theorem cellsP_get : ∀ (ps : List (Int × Int × Int)) (k : Nat) (p : Int × Int × Int), ps[k]? = some p →
    (cellsP ps)[k * 3]? = some (.int .u64 p.1) ∧ (cellsP ps)[k * 3 + 1]? = some (.int .u32 p.2.1) ∧ (cellsP ps)[k * 3 + 2]? = some (.int .u32 p.2.2)
  | [], k, p, h => by simp at h
  | q :: ps, 0, p, h => by
    simp at h
    subst h
    simp [cellsP]
  | q :: ps, k + 1, p, h => by
    have := cellsP_get ps k p (by simpa using h)
    rw [show (k + 1) * 3 = k * 3 + 3 by omega, show k * 3 + 3 + 1 = (k * 3 + 1) + 3 by omega, show k * 3 + 3 + 2 = (k * 3 + 2) + 3 by omega]
    simpa [cellsP] using this
/-- The slice's cells, in the world. -/
def At (w : World) (ao : Option Addr) (cs : List Value) : Prop := ∀ (j : Nat) (u : Value), cs[j]? = some u → ∃ ad, ao = some ad ∧ w.cell? (ad.add j) = some u
theorem At.below {w w' : World} {ao : Option Addr} {cs : List Value} (h : At w ao cs) (hb : Below w.heap.size w w') : At w' ao cs := fun j u hj => by
  obtain ⟨ad, e, hc⟩ := h j u hj
  have : ((ad.add j)).block < w.heap.size := World.block_lt_of_cell? w _ hc
  exact ⟨ad, e, (hb.cell this).trans hc⟩

theorem cell_add (w : World) (ad : Addr) (m i : Nat) : w.cell? ⟨(ad.add m).block, (ad.add m).off + (i + 1), none⟩ = w.cell? (ad.add (m + (i + 1))) := by
  have e : (⟨(ad.add m).block, (ad.add m).off + (i + 1), none⟩ : Addr) = ad.add (m + (i + 1)) := by
    unfold Addr.add
    by_cases h : m = 0
    · subst h; simp
    · have h2 : ¬ m + (i + 1) = 0 := by omega
      simp only [h, h2, if_false, Addr.mk.injEq, true_and, and_true]
      omega
  rw [e]
def fl : List Int → Int × Int
  | [] => (0, 0)
  | d :: ds => ds.foldl (fun a e => (min a.1 e, max a.2 e)) (d, d)
theorem fl_one (d : Int) : fl [d] = (d, d) := rfl
theorem fl_step {l : List Int} (h : l ≠ []) (d : Int) : fl (l ++ [d]) = (min (fl l).1 d, max (fl l).2 d) := by
  cases l with
  | nil => exact absurd rfl h
  | cons x l => simp [fl, List.foldl_append]
theorem take_next {α : Type} {ps : List α} {k : Nat} {p : α} (h : ps[k]? = some p) : ps.take (k + 1) = ps.take k ++ [p] := by
  rw [List.take_add_one, h]
  rfl
def diffs (base : Int) (ps : List (Int × Int × Int)) : List Int := ps.map fun p => since p.1 base

set_option maxHeartbeats 1000000 in
set_option maxRecDepth 100000 in
theorem pos_Floors (base : Int) (ao : Option Addr) (cap : Nat) (ps : List (Int × Int × Int)) (w : World) (hlen : ps.length ≤ 1000000) (hc : At w ao (cellsP ps)) :
    Calls Tryz.prog 118 #[.int .u64 base, .slice ao ps.length cap] w
      (Ret w (.tuple #[.int .i64 (fl (diffs base ps)).1, .int .i64 (fl (diffs base ps)).2])) := by
  have S := fun t w => vtime_Since t base w
  generalize hn : ps.length = n at *
  go_enter Tryz.func118, Tryz.ntmps118
  go_wp2_with fail
  go_loopw [4, 5, 11] (fun a b i wr => ∃ k : Nat, k ≤ n ∧ i = .int .i64 k ∧ a = .int .i64 (fl (diffs base (ps.take k))).1 ∧ b = .int .i64 (fl (diffs base (ps.take k))).2 ∧ Below w.heap.size w wr) (fun _ _ i _ => n - (intOf i).toNat)
  case atStart => exact ⟨0, Nat.zero_le _, rfl, by simp [diffs, fl], by simp [diffs, fl], Below.refl _ _⟩
  case round =>
    obtain ⟨k, hk, rfl, rfl, rfl, hnx⟩ := hrel
    rcases Nat.lt_or_ge k n with hlt | hge
    · have hp : ∃ p, ps[k]? = some p := ⟨ps[k]'(by omega), List.getElem?_eq_getElem (by omega)⟩
      obtain ⟨⟨t, r, x⟩, hp⟩ := hp
      obtain ⟨g0, g1, g2⟩ := cellsP_get ps k _ hp
      have A := hc.below hnx
      obtain ⟨ad, rfl, c0⟩ := A _ _ g0
      obtain ⟨ad1, e1, c1⟩ := A _ _ g1
      obtain ⟨ad2, e2, c2⟩ := A _ _ g2
      obtain rfl : ad = ad1 := Option.some.inj e1
      obtain rfl : ad = ad2 := Option.some.inj e2
      simp only [] at c0 c1 c2
      rw [← cell_add wr ad (k * 3) 0] at c1
      rw [← cell_add wr ad (k * 3) 1] at c2
      have hlt2 := World.block_lt_of_cell? wr _ c0
      simp only [Nat.zero_add, Nat.reduceAdd] at c1 c2
      clear A g0 g1 g2 e1 e2 hc
      rcases Nat.eq_zero_or_pos k with h0 | h0
      · subst h0
        simp only [Nat.zero_mul, Addr.add, if_true] at c0 c1 c2 hlt2
        go_wp2_with (go_at_call 32; refine (S _ _).mono ?_; rintro e w1 ⟨rfl, hb1⟩; obtain ⟨hc1, hf1⟩ := bcell hb1; (try simp only [World.heap_drewN, World.cell?_drewN] at hc1); (try simp only [World.heap_drewN, World.frozen?_drewN] at hf1); have hz1 := bsize hb1; (try simp only [World.size_alloc, World.size_setCell, World.size_drew, World.heap_drewN] at hz1); (try (have hs0 : w.heap.size < w1.heap.size := by omega)); (try (have hs1 : w.heap.size + 1 < w1.heap.size := by omega)); (try (have hs2 : w.heap.size + 2 < w1.heap.size := by omega)); (try (have hs3 : w.heap.size + 3 < w1.heap.size := by omega)))
        have e := take_next hp
        simp only [Nat.zero_add, List.take_zero, List.nil_append] at e
        refine ⟨⟨1, by omega, rfl, by rw [e]; rfl, by rw [e]; rfl, ?_⟩, by simp [intOf]; omega⟩
        exact hnx.trans (Below.mono (Below.trans (Below.alloc (Below.refl _ _) (Nat.le_refl _) _) (Below.mono hb1 (by simp))) hnx.size)
      · have e := take_next hp
        have hne : diffs base (ps.take k) ≠ [] := by
          intro h
          have := congrArg List.length h
          simp only [diffs, List.length_map, List.length_take, List.length_nil] at this
          omega
        have e2 : diffs base (ps.take (k + 1)) = diffs base (ps.take k) ++ [since t base] := by rw [e]; simp [diffs]
        have e3 := fl_step hne (since t base)
        rw [← e2] at e3
        have hkz : ((k : Int) == 0) = false := by simp; omega
        clear e e2 hne
        go_wp2_with (go_at_call 32; refine (S _ _).mono ?_; rintro e w1 ⟨rfl, hb1⟩; obtain ⟨hc1, hf1⟩ := bcell hb1; (try simp only [World.heap_drewN, World.cell?_drewN] at hc1); (try simp only [World.heap_drewN, World.frozen?_drewN] at hf1); have hz1 := bsize hb1; (try simp only [World.size_alloc, World.size_setCell, World.size_drew, World.heap_drewN] at hz1); (try (have hs0 : w.heap.size < w1.heap.size := by omega)); (try (have hs1 : w.heap.size + 1 < w1.heap.size := by omega)); (try (have hs2 : w.heap.size + 2 < w1.heap.size := by omega)); (try (have hs3 : w.heap.size + 3 < w1.heap.size := by omega)))
        refine ⟨⟨k + 1, by omega, by simp, by rw [e3], by rw [e3], ?_⟩, by simp [intOf]; omega⟩
        exact hnx.trans (Below.mono (Below.trans (Below.alloc (Below.refl _ _) (Nat.le_refl _) _) (Below.mono hb1 (by simp))) hnx.size)
    · have hkn : k = n := by omega
      have e : ps.take k = ps := List.take_of_length_le (by omega)
      rw [e]
      go_wp2_with fail
      refine bodyPost_ret (by simp [*, results, Tryz.results118, go_sem]; try rfl) rfl ?_
      exact ⟨rfl, hnx⟩
end Go.Proofs.YtemfhipofgafiaaGreatDoor
