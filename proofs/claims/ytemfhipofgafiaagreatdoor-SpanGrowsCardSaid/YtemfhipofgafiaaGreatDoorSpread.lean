/- item.Spread: HOW FAR ALL LIE APART. -/
import Derived.Test.YtemfhipofgafiaaGreatDoorFloors
import Derived.Test.YtemfhipofgafiaaGreatDoorEvB
import Derived.Maps.AppendAt
set_option linter.unusedVariables false
set_option linter.unusedSimpArgs false
namespace Go.Proofs.YtemfhipofgafiaaGreatDoor
open Go.RowKit


/-- An item. -/
structure It where
  t : Int
  r : Int
  x : Int
  i : Int
  u : Int
  s : Int
  y : Int
def It.pos (a : It) : Int × Int × Int := (a.t, a.r, a.x)
def It.dead (a : It) : Int × Int × Int := (a.u, a.s, a.y)
def It.cells (a : It) : List Value := [.int .u64 a.t, .int .u32 a.r, .int .u32 a.x, .int .i64 a.i, .int .u64 a.u, .int .u32 a.s, .int .u32 a.y]
def cellsI (l : List It) : List Value := l.flatMap It.cells
theorem cellsI_get : ∀ (l : List It) (k : Nat) (p : It), l[k]? = some p → ∀ j u, p.cells[j]? = some u → (cellsI l)[k * 7 + j]? = some u
  | [], k, p, h, j, u, hj => by simp at h
  | q :: l, 0, p, h, j, u, hj => by
    simp at h
    subst h
    have hlt := (List.getElem?_eq_some_iff.1 hj).1
    simp only [cellsI, List.flatMap_cons, Nat.zero_mul, Nat.zero_add]
    rw [List.getElem?_append_left hlt]
    exact hj
  | q :: l, k + 1, p, h, j, u, hj => by
    have := cellsI_get l k p (by simpa using h) j u hj
    simp only [cellsI, List.flatMap_cons] at *
    rw [List.getElem?_append_right (by simp [It.cells]; omega)]
    rw [show (k + 1) * 7 + j - q.cells.length = k * 7 + j by simp [It.cells]; omega]
    exact this
def poss (l : List It) : List (Int × Int × Int) := l.map It.pos
def boths (l : List It) : List (Int × Int × Int) := l.flatMap fun a => [a.pos, a.dead]
/-- How far items lie apart, from a base. -/
def spreadI (base : Int) (l : List It) : Int := IntKind.u64.wrap (IntKind.u64.wrap (fl (diffs base (boths l))).2 - IntKind.u64.wrap (fl (diffs base (poss l))).1)

section
variable {P : Program} {ops : Array Oper} {md : Region.Mode} {Q : Exit → Act → World → Prop} {R : World → World → Prop} {I : Nat → Bool}
theorem rest_one_cps {k : Nat} {o : Oper} {f : Nat} {listed : Array Bool} {a : Act} {w : World} (hr : Region.ready md ops listed = [k]) (ho : ops[k]? = some o) (hg : o.guard = none) (hI : I k = true)
    (h : ∀ K : Act → World → Prop, (∀ a' w'', R w w'' → (∀ w3, Reg.E w'' w3 → RegP.wpM P md ops Q R I f true (listed.setIfInBounds k true) a' w3) → K a' w'') → o.wp P a w K (Reg.QN Q)) : RegP.wpM P md ops Q R I (f + 1) true listed a w :=
  RegP.rest_one hr ho hg hI (h _ (fun _ _ h1 h2 => ⟨h1, h2⟩))
theorem rest_two_cps {k k2 : Nat} {o o2 : Oper} {f : Nat} {listed : Array Bool} {a : Act} {w : World} (hr : Region.ready md ops listed = [k, k2]) (ho : ops[k]? = some o) (ho2 : ops[k2]? = some o2) (hg : o.guard = none) (hg2 : o2.guard = none) (hI : I k = true) (hI2 : I k2 = true)
    (h : ∀ K : Act → World → Prop, (∀ a' w'', R w w'' → (∀ w3, Reg.E w'' w3 → RegP.wpM P md ops Q R I f true (listed.setIfInBounds k true) a' w3) → K a' w'') → o.wp P a w K (Reg.QN Q))
    (h2 : ∀ K : Act → World → Prop, (∀ a' w'', R w w'' → (∀ w3, Reg.E w'' w3 → RegP.wpM P md ops Q R I f true (listed.setIfInBounds k2 true) a' w3) → K a' w'') → o2.wp P a w K (Reg.QN Q)) : RegP.wpM P md ops Q R I (f + 1) true listed a w :=
  RegP.rest_two hr ho ho2 hg hg2 hI hI2 (h _ (fun _ _ h1 h2 => ⟨h1, h2⟩)) (h2 _ (fun _ _ h1 h2 => ⟨h1, h2⟩))
end

/-- What a region on two growing slices keeps: block b. -/
def RK (b : Nat) (w w' : World) : Prop := w.heap.size ≤ w'.heap.size ∧ (b < w.heap.size → w'.heap[b]? = w.heap[b]?)
theorem RK_prot (b : Nat) : RegP.Prot (RK b) :=
  ⟨fun w => ⟨Nat.le_refl _, fun _ => rfl⟩, fun a c => ⟨Nat.le_trans a.1 c.1, fun h => (c.2 (Nat.lt_of_lt_of_le h a.1)).trans (a.2 h)⟩, fun e => ⟨e.size, fun h => e.block _ h⟩⟩
theorem RK.alloc (b : Nat) (w : World) (o : Obj) : RK b w (w.alloc o) := (RK_prot b).ofE (Reg.E.alloc w o)
theorem RK.cell {b : Nat} {w w' : World} (h : RK b w w') (o : Nat) {v : Value} (hc : w.cell? ⟨b, o, none⟩ = some v) : w'.cell? ⟨b, o, none⟩ = some v := by
  have hlt := World.block_lt_of_cell? w _ hc
  exact (World.cell?_of_block (w := w) (a := ⟨b, o, none⟩) (h.2 hlt)).trans hc

/-- Two growing slices, and what is below. -/
structure Two (w w1 : World) (v1 : Value) (n1 : Nat) (xs1 : List Value) (v2 : Value) (n2 : Nat) (xs2 : List Value) : Prop where
  own1 : w1.ownsRow w.heap.size 29 3 v1 n1 xs1
  own2 : w1.ownsRow w.heap.size 29 3 v2 n2 xs2
  apart : v1.ownBlock = none ∨ v1.ownBlock ≠ v2.ownBlock
  below : Below w.heap.size w w1
/-- News that lie in block b. -/
structure News (w1 : World) (b : Nat) (v1 v2 : Value) (news : List Value) : Prop where
  blk : w1.heap[b]? = some (.cells ⟨news⟩ 29 (0, 0))
  ne1 : v1.ownBlock ≠ some b
  ne2 : v2.ownBlock ≠ some b
theorem grown_of_E {w1 w2 : World} (h : Reg.E w1 w2) (row : Option Nat) : w1.grownBy w2 row := ⟨h.os, h.tape, h.output, h.size, fun k hk _ => h.block k hk⟩
theorem own_E {w1 w2 : World} {base e size n : Nat} {v : Value} {xs : List Value} (h : w1.ownsRow base e size v n xs) (he : Reg.E w1 w2) : w2.ownsRow base e size v n xs :=
  h.kept (grown_of_E he none) (by cases hv : v.ownBlock <;> simp)
theorem Two.E {w w1 w2 : World} {v1 v2 : Value} {n1 n2 : Nat} {xs1 xs2 : List Value} (h : Two w w1 v1 n1 xs1 v2 n2 xs2) (he : Reg.E w1 w2) : Two w w2 v1 n1 xs1 v2 n2 xs2 :=
  ⟨own_E h.own1 he, own_E h.own2 he, h.apart, h.below.trans (he.to h.below.size)⟩
theorem News.E {w1 w2 : World} {b : Nat} {v1 v2 : Value} {news : List Value} (h : News w1 b v1 v2 news) (he : Reg.E w1 w2) : News w2 b v1 v2 news :=
  ⟨(he.block b (Array.getElem?_eq_some_iff.1 h.blk).1).trans h.blk, h.ne1, h.ne2⟩
theorem Two.build {w w1 : World} {v1 v2 : Value} {n1 n2 : Nat} {xs1 xs2 : List Value} (h : Two w w1 v1 n1 xs1 v2 n2 xs2) (news : List Value) :
    Two w (w1.alloc (.cells ⟨news⟩ 29)) v1 n1 xs1 v2 n2 xs2 ∧ News (w1.alloc (.cells ⟨news⟩ 29)) w1.heap.size v1 v2 news := by
  refine ⟨h.E (Reg.E.alloc _ _), (MapKept.heap_alloc w1 _).1, fun e => ?_, fun e => ?_⟩
  · have := (h.own1.lt _ e).2; omega
  · have := (h.own2.lt _ e).2; omega
theorem News.cells {w1 : World} {b : Nat} {v1 v2 : Value} {news : List Value} (h : News w1 b v1 v2 news) : ∀ (j : Nat) (u : Value), news[j]? = some u → w1.cell? ((⟨b, 0, none⟩ : Addr).add j) = some u := by
  intro j u hj
  have hadd : (⟨b, 0, none⟩ : Addr).add j = ⟨b, j, none⟩ := by unfold Addr.add; split <;> simp_all
  rw [hadd]
  simp [World.cell?, h.blk, hj]

/-- Block b is there, and none of the slices'. -/
def Off (w1 : World) (b : Nat) (v1 v2 : Value) : Prop := ∃ o, w1.heap[b]? = some o ∧ v1.ownBlock ≠ some b ∧ v2.ownBlock ≠ some b
theorem Off.E {w1 w2 : World} {b : Nat} {v1 v2 : Value} (h : Off w1 b v1 v2) (he : Reg.E w1 w2) : Off w2 b v1 v2 := by
  obtain ⟨o, h1, h2⟩ := h
  exact ⟨o, (he.block b (Array.getElem?_eq_some_iff.1 h1).1).trans h1, h2⟩
theorem Off.step {w1 w2 : World} {b : Nat} {v1 v2 v1' v2' : Value} (h : Off w1 b v1 v2)
    (hk : ∀ b' o, w1.heap[b']? = some o → v1.ownBlock ≠ some b' → v2.ownBlock ≠ some b' → w2.heap[b']? = some o ∧ v1'.ownBlock ≠ some b' ∧ v2'.ownBlock ≠ some b') (hs : w1.heap.size ≤ w2.heap.size) : Off w2 b v1' v2' ∧ RK b w1 w2 := by
  obtain ⟨o, h1, h2, h3⟩ := h
  obtain ⟨k1, k2, k3⟩ := hk b o h1 h2 h3
  exact ⟨⟨o, k1, k2, k3⟩, hs, fun _ => k1.trans h1.symm⟩
theorem News.step {w1 w2 : World} {b : Nat} {v1 v2 v1' v2' : Value} {news : List Value} (h : News w1 b v1 v2 news)
    (hk : ∀ b' o, w1.heap[b']? = some o → v1.ownBlock ≠ some b' → v2.ownBlock ≠ some b' → w2.heap[b']? = some o ∧ v1'.ownBlock ≠ some b' ∧ v2'.ownBlock ≠ some b') : News w2 b v1' v2' news := by
  obtain ⟨k1, k2, k3⟩ := hk b _ h.blk h.ne1 h.ne2
  exact ⟨k1, k2, k3⟩
theorem infoPos : (Tryz.prog.info? 29).map (fun i => (i.zero, i.size, i.bytes)) = some (some (.agg #[.int .u64 0, .int .u32 0, .int .u32 0]), 3, 16) := by kernel_rfl
theorem Two.app1 {w w1 : World} {v1 v2 : Value} {n1 n2 b m c : Nat} {xs1 xs2 news : List Value} {ty : TypeId} (h : Two w w1 v1 n1 xs1 v2 n2 xs2) (hn : News w1 b v1 v2 news) (hl : news.length = m * 3) (h1 : ∀ u ∈ news, u.oneCell' = true) (hm : n1 + m ≤ 1000000) :
    ∃ v1' w2, (Builtin.append_ #[23, 23] ty #[v1, .slice (some ⟨b, 0, none⟩) m c]).run Tryz.prog w1 = .ok v1' w2 ∧ Two w w2 v1' (n1 + m) (xs1 ++ news) v2 n2 xs2 ∧
      (∀ b' o, w1.heap[b']? = some o → v1.ownBlock ≠ some b' → v2.ownBlock ≠ some b' → w2.heap[b']? = some o ∧ v1'.ownBlock ≠ some b' ∧ v2.ownBlock ≠ some b') ∧ w1.heap.size ≤ w2.heap.size := by
  obtain ⟨i0, hi, hz0, hz1, hz2⟩ := info_parts infoPos
  obtain ⟨v', w2, k1, k2, k3, k4, k5⟩ := run_append_own_at (P := Tryz.prog) (w := w1) w.heap.size 23 ty 29 i0 _ 3 16 Tryz.underlying23 hi hz0 hz1 hz2 rfl (by decide) v1 n1 xs1 h.own1 ⟨b, 0, none⟩ m c news hl hn.cells h1 (by unfold maxLen; omega) (by omega) h.below.size
  have ne : ∀ b', b' < w1.heap.size → v1.ownBlock ≠ some b' → v'.ownBlock ≠ some b' := fun b' hb hne e => by
    rcases k5 with k5 | k5
    · rw [k5] at e; exact hne e
    · rw [k5] at e; injection e with e; omega
  have k3o : v2.ownBlock = none ∨ v2.ownBlock ≠ v1.ownBlock := by
    rcases h.apart with e | e
    · cases hv : v2.ownBlock with
      | none => exact .inl rfl
      | some q => exact .inr (by rw [e]; simp)
    · exact .inr (fun e2 => e e2.symm)
  refine ⟨v', w2, k1, ⟨k2, h.own2.kept k3 k3o, ?_, Below.grown h.below k3 h.below.size (fun q hq => (h.own1.lt q hq).1)⟩, fun b' o hb e1 e2 => ?_, k3.size⟩
  · rcases k5 with k5 | k5
    · rw [k5]; exact h.apart
    · refine .inr ?_
      rw [k5]
      intro e
      have := (h.own2.lt _ e.symm).2
      omega
  · have hlt := (Array.getElem?_eq_some_iff.1 hb).1
    exact ⟨(k3.block b' hlt (fun e => e1 e.symm)).trans hb, ne b' hlt e1, e2⟩
theorem Two.app2 {w w1 : World} {v1 v2 : Value} {n1 n2 b m c : Nat} {xs1 xs2 news : List Value} {ty : TypeId} (h : Two w w1 v1 n1 xs1 v2 n2 xs2) (hn : News w1 b v1 v2 news) (hl : news.length = m * 3) (h1 : ∀ u ∈ news, u.oneCell' = true) (hm : n2 + m ≤ 1000000) :
    ∃ v2' w2, (Builtin.append_ #[23, 23] ty #[v2, .slice (some ⟨b, 0, none⟩) m c]).run Tryz.prog w1 = .ok v2' w2 ∧ Two w w2 v1 n1 xs1 v2' (n2 + m) (xs2 ++ news) ∧
      (∀ b' o, w1.heap[b']? = some o → v1.ownBlock ≠ some b' → v2.ownBlock ≠ some b' → w2.heap[b']? = some o ∧ v1.ownBlock ≠ some b' ∧ v2'.ownBlock ≠ some b') ∧ w1.heap.size ≤ w2.heap.size := by
  obtain ⟨i0, hi, hz0, hz1, hz2⟩ := info_parts infoPos
  obtain ⟨v', w2, k1, k2, k3, k4, k5⟩ := run_append_own_at (P := Tryz.prog) (w := w1) w.heap.size 23 ty 29 i0 _ 3 16 Tryz.underlying23 hi hz0 hz1 hz2 rfl (by decide) v2 n2 xs2 h.own2 ⟨b, 0, none⟩ m c news hl hn.cells h1 (by unfold maxLen; omega) (by omega) h.below.size
  have ne : ∀ b', b' < w1.heap.size → v2.ownBlock ≠ some b' → v'.ownBlock ≠ some b' := fun b' hb hne e => by
    rcases k5 with k5 | k5
    · rw [k5] at e; exact hne e
    · rw [k5] at e; injection e with e; omega
  refine ⟨v', w2, k1, ⟨h.own1.kept k3 h.apart, k2, ?_, Below.grown h.below k3 h.below.size (fun q hq => (h.own2.lt q hq).1)⟩, fun b' o hb e1 e2 => ?_, k3.size⟩
  · rcases h.apart with e | e
    · exact .inl e
    · refine .inr ?_
      rcases k5 with k5 | k5
      · rw [k5]; exact e
      · rw [k5]
        intro e
        have := (h.own1.lt _ e).2
        omega
  · have hlt := (Array.getElem?_eq_some_iff.1 hb).1
    exact ⟨(k3.block b' hlt (fun e => e2 e.symm)).trans hb, e1, ne b' hlt e2⟩

set_option maxHeartbeats 1000000 in
set_option maxRecDepth 100000 in
theorem item_Spread (base : Int) (ao : Option Addr) (cap : Nat) (l : List It) (w : World) (hlen : l.length ≤ 100000) (hc : At w ao (cellsI l)) :
    Calls Tryz.prog 69 #[.int .u64 base, .slice ao l.length cap] w (Ret w (.int .u64 (spreadI base l))) := by
  generalize hn : l.length = n at *
  go_enter Tryz.func69, Tryz.ntmps69
  go_wp2_with fail
  go_loopw [5, 6, 15] (fun a b i wr => ∃ k : Nat, k ≤ n ∧ i = .int .i64 k ∧ wr.ownsRow w.heap.size 29 3 a k (cellsP (poss (l.take k))) ∧ wr.ownsRow w.heap.size 29 3 b (2 * k) (cellsP (boths (l.take k))) ∧
      (a.ownBlock = none ∨ a.ownBlock ≠ b.ownBlock) ∧ Below w.heap.size w wr) (fun _ _ i _ => n - (intOf i).toNat)
  case atStart => exact ⟨0, Nat.zero_le _, rfl, World.ownsRow_nil _ _ _ _, World.ownsRow_nil _ _ _ _, .inl rfl, Below.refl _ _⟩
  case round =>
    obtain ⟨k, hk, rfl, hown1, hown2, hap, hnx⟩ := hrel
    rcases Nat.lt_or_ge k n with hlt | hge
    · have hp : ∃ p, l[k]? = some p := ⟨l[k]'(by omega), List.getElem?_eq_getElem (by omega)⟩
      obtain ⟨⟨t, r, x, i, u, s, y⟩, hp⟩ := hp
      have G := cellsI_get l k _ hp
      simp only [It.cells] at G
      have A := hc.below hnx
      obtain ⟨ad, rfl, c0⟩ := A _ _ (G 0 _ rfl)
      have C : ∀ j v, ([.int .u64 t, .int .u32 r, .int .u32 x, .int .i64 i, .int .u64 u, .int .u32 s, .int .u32 y] : List Value)[j + 1]? = some v → wr.cell? ⟨(ad.add (k * 7)).block, (ad.add (k * 7)).off + (j + 1), none⟩ = some v := fun j v hj => by
        obtain ⟨ad', e, c⟩ := A _ _ (G (j + 1) v hj)
        obtain rfl : ad = ad' := Option.some.inj e
        rw [cell_add]
        exact c
      have c1 := C 0 _ rfl
      have c2 := C 1 _ rfl
      have c3 := C 2 _ rfl
      have c4 := C 3 _ rfl
      have c5 := C 4 _ rfl
      have c6 := C 5 _ rfl
      simp only [Nat.zero_add, Nat.reduceAdd, Nat.add_zero] at c0 c1 c2 c3 c4 c5 c6
      have hlt2 := World.block_lt_of_cell? wr _ c0
      clear A G C
      have two : Two w wr u5 k (cellsP (poss (l.take k))) u6 (2 * k) (cellsP (boths (l.take k))) := ⟨hown1, hown2, hap, hnx⟩
      clear hown1 hown2 hap
      · go_wp2_with fail
        generalize hW : wr.alloc _ = W
        have m0 : W.cell? ⟨wr.heap.size, 0, none⟩ = some (.int .u64 t) := by subst hW; go_simp
        have m1 : W.cell? ⟨wr.heap.size, 1, none⟩ = some (.int .u32 r) := by subst hW; go_simp
        have m2 : W.cell? ⟨wr.heap.size, 2, none⟩ = some (.int .u32 x) := by subst hW; go_simp
        have m3 : W.cell? ⟨wr.heap.size, 3, none⟩ = some (.int .i64 i) := by subst hW; go_simp
        have m4 : W.cell? ⟨wr.heap.size, 4, none⟩ = some (.int .u64 u) := by subst hW; go_simp
        have m5 : W.cell? ⟨wr.heap.size, 5, none⟩ = some (.int .u32 s) := by subst hW; go_simp
        have m6 : W.cell? ⟨wr.heap.size, 6, none⟩ = some (.int .u32 y) := by subst hW; go_simp
        refine RegP.wp_region_P (R := RK wr.heap.size) (hd := [0, 1, 2, 5, 6, 7, 8, 9]) (I := fun _ => true) (RK_prot _) (by kernel_rfl) (by kernel_rfl) ?_
        iterate 8 (first
          | (refine RegP.hd_pure rfl rfl rfl (fun K hK => ?_); apply Exists.intro; refine ⟨fun w2 => ?_, ?_⟩; (go_simp; exact .mk); (go_simp; refine hK _ ?_; clear hK K))
          | (refine RegP.hd_cps rfl rfl rfl (fun K hK => ?_); apply Exists.intro; refine ⟨fun w2 hR => ?_, ?_⟩; (have d0 := hR.cell 0 m0; have d1 := hR.cell 1 m1; have d2 := hR.cell 2 m2; have d3 := hR.cell 3 m3; have d4 := hR.cell 4 m4; have d5 := hR.cell 5 m5; have d6 := hR.cell 6 m6; go_simp; exact .value (Reg.E.refl _)); (go_simp; refine hK _ ?_; clear hK K)))
        refine RegP.hd_nil ?_
        intro w3 hE3
        have two3 : Two w w3 u5 k (cellsP (poss (l.take k))) u6 (2 * k) (cellsP (boths (l.take k))) := two.E (Reg.E.trans (by rw [← hW]; exact Reg.E.alloc _ _) (Reg.E.trans (Below.drew (Below.refl _ _)) hE3))
        have off3 : Off w3 wr.heap.size u5 u6 := by
          refine Off.E (w1 := W) ⟨_, by rw [← hW]; exact (MapKept.heap_alloc wr _).1, fun e => ?_, fun e => ?_⟩ (Reg.E.trans (Below.drew (Below.refl _ _)) hE3)
          · have := (two.own1.lt _ e).2; omega
          · have := (two.own2.lt _ e).2; omega
        clear two hE3 m0 m1 m2 m3 m4 m5 m6 c0 c1 c2 c3 c4 c5 c6
        refine rest_two_cps (f := 5) (k := 3) (k2 := 10) (by kernel_rfl) rfl rfl rfl rfl rfl rfl (fun K hK => ?_) (fun K hK => ?_)
        · skip
          unfold Oper.wp
          go_simp
          refine hK _ _ (RK.alloc _ _ _) ?_
          clear hK K
          intro w4 hE4
          obtain ⟨two4, news4⟩ := (two3).build [.int .u64 t, .int .u32 r, .int .u32 x]
          have off4 := ((off3).E (Reg.E.alloc _ _)).E hE4
          replace two4 := (two4).E hE4
          replace news4 := (news4).E hE4
          refine rest_two_cps (f := 4) (k := 4) (k2 := 10) (by kernel_rfl) rfl rfl rfl rfl rfl rfl (fun K hK => ?_) (fun K hK => ?_)
          · skip
            obtain ⟨v1, w5, e5, two6, keep5, hsz⟩ := (two4).app1 (ty := 23) (m := 1) (c := 1) news4 rfl (by simp [Value.oneCell']) (by omega)
            unfold Oper.wp
            rw [Ev.evalL_eq, Ev.run_app (s := .tmp 19) (x := .tmp 22) (t := 23) (u := 23) rfl]
            erw [e5]
            simp only [Oper.upon]
            obtain ⟨off6, hrk⟩ := (off4).step keep5 hsz
            go_simp
            refine hK _ _ hrk ?_
            clear hK K hrk hsz e5
            intro w6 hE6
            replace two6 := (two6).E hE6
            replace off6 := (off6).E hE6
            refine rest_one_cps (f := 3) (k := 10) (by kernel_rfl) rfl rfl rfl (fun K hK => ?_)
            unfold Oper.wp
            go_simp
            refine hK _ _ (RK.alloc _ _ _) ?_
            clear hK K
            intro w7 hE7
            obtain ⟨two7, news7⟩ := (two6).build [.int .u64 t, .int .u32 r, .int .u32 x, .int .u64 u, .int .u32 s, .int .u32 y]
            have off7 := ((off6).E (Reg.E.alloc _ _)).E hE7
            replace two7 := (two7).E hE7
            replace news7 := (news7).E hE7
            refine rest_one_cps (f := 2) (k := 11) (by kernel_rfl) rfl rfl rfl (fun K hK => ?_)
            obtain ⟨v2, w8, e8, two9, keep8, hsz⟩ := (two7).app2 (ty := 23) (m := 2) (c := 2) news7 rfl (by simp [Value.oneCell']) (by omega)
            unfold Oper.wp
            rw [Ev.evalL_eq, Ev.run_app (s := .tmp 24) (x := .tmp 29) (t := 23) (u := 23) rfl]
            erw [e8]
            simp only [Oper.upon]
            obtain ⟨off9, hrk⟩ := (off7).step keep8 hsz
            go_simp
            refine hK _ _ hrk ?_
            clear hK K hrk hsz e8
            intro w9 hE9
            replace two9 := (two9).E hE9
            replace off9 := (off9).E hE9
            refine rest_one_cps (f := 1) (k := 12) (by kernel_rfl) rfl rfl rfl (fun K hK => ?_)
            unfold Oper.wp
            go_simp
            refine hK _ _ ((RK_prot _).refl _) ?_
            clear hK K
            intro w20 hE20
            refine rest_one_cps (f := 0) (k := 13) (by kernel_rfl) rfl rfl rfl (fun K hK => ?_)
            unfold Oper.wp
            go_simp
            refine hK _ _ ((RK_prot _).refl _) ?_
            clear hK K
            intro w21 hE21
            refine RegP.rest_end (by kernel_rfl) ?_
            replace two9 := ((two9).E hE20).E hE21
            clear hE20 hE21
            go_wp2_with fail
            have hs1 : Below w.heap.size w w21 := (two9).below
            refine ⟨⟨k + 1, by omega, by simp, ?_, ?_, (two9).apart, (two9).below⟩, by simp [intOf]; omega⟩
            · have h := (two9).own1
              rw [take_next hp, poss, List.map_append, ← poss, cellsP, List.flatMap_append, ← cellsP]
              exact h
            · have h := (two9).own2
              rw [take_next hp, boths, List.flatMap_append, ← boths, cellsP, List.flatMap_append, ← cellsP, show 2 * (k + 1) = 2 * k + 2 by omega]
              exact h
          · skip
            unfold Oper.wp
            go_simp
            refine hK _ _ (RK.alloc _ _ _) ?_
            clear hK K
            intro w5 hE5
            obtain ⟨two5, news5⟩ := (two4).build [.int .u64 t, .int .u32 r, .int .u32 x, .int .u64 u, .int .u32 s, .int .u32 y]
            have off5 := ((off4).E (Reg.E.alloc _ _)).E hE5
            replace two5 := (two5).E hE5
            replace news5 := (news5).E hE5
            replace news4 := (news4.E (Reg.E.alloc _ _)).E hE5
            refine rest_one_cps (f := 3) (k := 4) (by kernel_rfl) rfl rfl rfl (fun K hK => ?_)
            obtain ⟨v1, w6, e6, two7, keep6, hsz⟩ := (two5).app1 (ty := 23) (m := 1) (c := 1) news4 rfl (by simp [Value.oneCell']) (by omega)
            unfold Oper.wp
            rw [Ev.evalL_eq, Ev.run_app (s := .tmp 19) (x := .tmp 22) (t := 23) (u := 23) rfl]
            erw [e6]
            simp only [Oper.upon]
            obtain ⟨off7, hrk⟩ := (off5).step keep6 hsz
            go_simp
            refine hK _ _ hrk ?_
            clear hK K hrk hsz e6
            intro w7 hE7
            replace two7 := (two7).E hE7
            replace off7 := (off7).E hE7
            replace news5 := (news5.step keep6).E hE7
            refine rest_one_cps (f := 2) (k := 11) (by kernel_rfl) rfl rfl rfl (fun K hK => ?_)
            obtain ⟨v2, w8, e8, two9, keep8, hsz⟩ := (two7).app2 (ty := 23) (m := 2) (c := 2) news5 rfl (by simp [Value.oneCell']) (by omega)
            unfold Oper.wp
            rw [Ev.evalL_eq, Ev.run_app (s := .tmp 24) (x := .tmp 29) (t := 23) (u := 23) rfl]
            erw [e8]
            simp only [Oper.upon]
            obtain ⟨off9, hrk⟩ := (off7).step keep8 hsz
            go_simp
            refine hK _ _ hrk ?_
            clear hK K hrk hsz e8
            intro w9 hE9
            replace two9 := (two9).E hE9
            replace off9 := (off9).E hE9
            refine rest_one_cps (f := 1) (k := 12) (by kernel_rfl) rfl rfl rfl (fun K hK => ?_)
            unfold Oper.wp
            go_simp
            refine hK _ _ ((RK_prot _).refl _) ?_
            clear hK K
            intro w20 hE20
            refine rest_one_cps (f := 0) (k := 13) (by kernel_rfl) rfl rfl rfl (fun K hK => ?_)
            unfold Oper.wp
            go_simp
            refine hK _ _ ((RK_prot _).refl _) ?_
            clear hK K
            intro w21 hE21
            refine RegP.rest_end (by kernel_rfl) ?_
            replace two9 := ((two9).E hE20).E hE21
            clear hE20 hE21
            go_wp2_with fail
            have hs1 : Below w.heap.size w w21 := (two9).below
            refine ⟨⟨k + 1, by omega, by simp, ?_, ?_, (two9).apart, (two9).below⟩, by simp [intOf]; omega⟩
            · have h := (two9).own1
              rw [take_next hp, poss, List.map_append, ← poss, cellsP, List.flatMap_append, ← cellsP]
              exact h
            · have h := (two9).own2
              rw [take_next hp, boths, List.flatMap_append, ← boths, cellsP, List.flatMap_append, ← cellsP, show 2 * (k + 1) = 2 * k + 2 by omega]
              exact h
        · skip
          unfold Oper.wp
          go_simp
          refine hK _ _ (RK.alloc _ _ _) ?_
          clear hK K
          intro w4 hE4
          obtain ⟨two4, news4⟩ := (two3).build [.int .u64 t, .int .u32 r, .int .u32 x, .int .u64 u, .int .u32 s, .int .u32 y]
          have off4 := ((off3).E (Reg.E.alloc _ _)).E hE4
          replace two4 := (two4).E hE4
          replace news4 := (news4).E hE4
          refine rest_one_cps (f := 4) (k := 3) (by kernel_rfl) rfl rfl rfl (fun K hK => ?_)
          unfold Oper.wp
          go_simp
          refine hK _ _ (RK.alloc _ _ _) ?_
          clear hK K
          intro w5 hE5
          obtain ⟨two5, news5⟩ := (two4).build [.int .u64 t, .int .u32 r, .int .u32 x]
          have off5 := ((off4).E (Reg.E.alloc _ _)).E hE5
          replace two5 := (two5).E hE5
          replace news5 := (news5).E hE5
          replace news4 := (news4.E (Reg.E.alloc _ _)).E hE5
          refine rest_one_cps (f := 3) (k := 4) (by kernel_rfl) rfl rfl rfl (fun K hK => ?_)
          obtain ⟨v1, w6, e6, two7, keep6, hsz⟩ := (two5).app1 (ty := 23) (m := 1) (c := 1) news5 rfl (by simp [Value.oneCell']) (by omega)
          unfold Oper.wp
          rw [Ev.evalL_eq, Ev.run_app (s := .tmp 19) (x := .tmp 22) (t := 23) (u := 23) rfl]
          erw [e6]
          simp only [Oper.upon]
          obtain ⟨off7, hrk⟩ := (off5).step keep6 hsz
          go_simp
          refine hK _ _ hrk ?_
          clear hK K hrk hsz e6
          intro w7 hE7
          replace two7 := (two7).E hE7
          replace off7 := (off7).E hE7
          replace news4 := (news4.step keep6).E hE7
          refine rest_one_cps (f := 2) (k := 11) (by kernel_rfl) rfl rfl rfl (fun K hK => ?_)
          obtain ⟨v2, w8, e8, two9, keep8, hsz⟩ := (two7).app2 (ty := 23) (m := 2) (c := 2) news4 rfl (by simp [Value.oneCell']) (by omega)
          unfold Oper.wp
          rw [Ev.evalL_eq, Ev.run_app (s := .tmp 24) (x := .tmp 29) (t := 23) (u := 23) rfl]
          erw [e8]
          simp only [Oper.upon]
          obtain ⟨off9, hrk⟩ := (off7).step keep8 hsz
          go_simp
          refine hK _ _ hrk ?_
          clear hK K hrk hsz e8
          intro w9 hE9
          replace two9 := (two9).E hE9
          replace off9 := (off9).E hE9
          refine rest_one_cps (f := 1) (k := 12) (by kernel_rfl) rfl rfl rfl (fun K hK => ?_)
          unfold Oper.wp
          go_simp
          refine hK _ _ ((RK_prot _).refl _) ?_
          clear hK K
          intro w20 hE20
          refine rest_one_cps (f := 0) (k := 13) (by kernel_rfl) rfl rfl rfl (fun K hK => ?_)
          unfold Oper.wp
          go_simp
          refine hK _ _ ((RK_prot _).refl _) ?_
          clear hK K
          intro w21 hE21
          refine RegP.rest_end (by kernel_rfl) ?_
          replace two9 := ((two9).E hE20).E hE21
          clear hE20 hE21
          go_wp2_with fail
          have hs1 : Below w.heap.size w w21 := (two9).below
          refine ⟨⟨k + 1, by omega, by simp, ?_, ?_, (two9).apart, (two9).below⟩, by simp [intOf]; omega⟩
          · have h := (two9).own1
            rw [take_next hp, poss, List.map_append, ← poss, cellsP, List.flatMap_append, ← cellsP]
            exact h
          · have h := (two9).own2
            rw [take_next hp, boths, List.flatMap_append, ← boths, cellsP, List.flatMap_append, ← cellsP, show 2 * (k + 1) = 2 * k + 2 by omega]
            exact h
    · have hkn : k = n := by omega
      have e : l.take k = l := List.take_of_length_le (by omega)
      rw [e] at hown1 hown2
      have lp : (poss l).length = k := by simp [poss]; omega
      have lb : (boths l).length = 2 * k := by
        have : ∀ l : List It, (boths l).length = 2 * l.length := by
          intro l
          induction l with
          | nil => rfl
          | cons a l ih => simp [boths] at *; omega
        rw [this]; omega
      have F : ∀ (v : Value) (m : Nat) (ps : List (Int × Int × Int)) (w1 : World), w1.ownsRow w.heap.size 29 3 v m (cellsP ps) → ps.length = m → m ≤ 1000000 → Calls Tryz.prog 118 #[.int .u64 base, v] w1 (Ret w1 (.tuple #[.int .i64 (fl (diffs base ps)).1, .int .i64 (fl (diffs base ps)).2])) := by
        intro v m ps w1 ho hm hm2
        subst hm
        obtain ⟨ho1, ho2⟩ := ho
        rcases ho2 with ⟨rfl, h0⟩ | ⟨g, cap, cur, rfl, h1, h2, h3, h4, h5, h6⟩
        · have := pos_Floors base none 0 ps w1 hm2 (fun j u hj => by
            have hnil : ps = [] := List.eq_nil_of_length_eq_zero h0
            subst hnil
            simp [cellsP] at hj)
          rw [h0] at this
          exact this
        · exact pos_Floors base (some ⟨g, 0, none⟩) cap ps w1 hm2 (fun j u hj => ⟨_, rfl, World.ownsRow.cells (v := .slice (some ⟨g, 0, none⟩) ps.length cap) ⟨ho1, .inr ⟨g, cap, cur, rfl, h1, h2, h3, h4, h5, h6⟩⟩ rfl j u hj⟩)
      go_wp2_with fail
      refine (F _ _ _ wr hown1 lp (by omega)).mono ?_
      rintro e w1 ⟨rfl, hb1⟩
      have hown3 := own_E hown2 hb1
      have hb3 := hb1.size
      go_wp2_with fail
      refine (F _ _ _ w1 hown3 lb (by omega)).mono ?_
      rintro e w2 ⟨rfl, hb2⟩
      go_wp2_with fail
      refine bodyPost_ret (by simp [*, results, Tryz.results69, go_sem]; try rfl) rfl ?_
      refine ⟨eqRet (congrArg (Value.int .u64) ?_), ?_⟩
      · rfl
      · exact hnx.trans ((hb1.mono hnx.size).trans (hb2.mono (Nat.le_trans hnx.size hb1.size)))
end Go.Proofs.YtemfhipofgafiaaGreatDoor
