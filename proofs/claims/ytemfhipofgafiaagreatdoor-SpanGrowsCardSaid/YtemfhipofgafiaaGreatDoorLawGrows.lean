/- THE LAW SpanGrows, WALKED. -/
import Derived.Test.YtemfhipofgafiaaGreatDoorGrow
import Derived.Test.YtemfhipofgafiaaGreatDoorAwake
set_option linter.unusedVariables false
set_option linter.unusedSimpArgs false
namespace Go.Proofs.YtemfhipofgafiaaGreatDoor
open Go.RowKit


section
variable {P : Program} {ops : Array Oper} {md : Region.Mode} {Q : Exit → Act → World → Prop} {R : World → World → Prop} {I : Nat → Bool}
theorem hd_pure_on {w : World} {F : Act → Prop} {o : Oper} {k : Nat} {rest : List Nat} {a : Act} (ho : ops[k]? = some o) (hg : Region.wanted o (yielded ops a.tmps) = true) (hA : Reg.isA o = false)
    (h : ∀ K : Act → Prop, (∀ a, RegP.wpHead P ops R w F rest a → K a) → ∃ v, (∀ w', Reg.Gives v w' ((execOp a.eval o).run P w')) ∧ K (a.put o.dst v)) : RegP.wpHead P ops R w F (k :: rest) a := by
  obtain ⟨v, h1, h2⟩ := h _ (fun _ h => h)
  exact ⟨o, v, ho, .inl ⟨hg, .inr ⟨hA, fun w' => (h1 w').eq⟩⟩, h2⟩
theorem hd_cps_on {w : World} {F : Act → Prop} {o : Oper} {k : Nat} {rest : List Nat} {a : Act} (ho : ops[k]? = some o) (hg : Region.wanted o (yielded ops a.tmps) = true) (hA : Reg.isA o = true)
    (h : ∀ K : Act → Prop, (∀ a, RegP.wpHead P ops R w F rest a → K a) → ∃ v, (∀ w', R w w' → Reg.Comes1 P v w' ((execOp a.eval o).run P w')) ∧ K (a.put o.dst v)) : RegP.wpHead P ops R w F (k :: rest) a := by
  obtain ⟨v, h1, h2⟩ := h _ (fun _ h => h)
  exact ⟨o, v, ho, .inl ⟨hg, .inl ⟨hA, h1⟩⟩, h2⟩
theorem hd_off {w : World} {F : Act → Prop} {o : Oper} {k : Nat} {rest : List Nat} {a : Act} (ho : ops[k]? = some o) (hg : Region.wanted o (yielded ops a.tmps) = false)
    (h : ∀ K : Act → Prop, (∀ a, RegP.wpHead P ops R w F rest a → K a) → K (a.put o.dst undef)) : RegP.wpHead P ops R w F (k :: rest) a :=
  ⟨o, undef, ho, .inr ⟨hg, rfl⟩, h _ (fun _ h => h)⟩
theorem rest_on {k : Nat} {o : Oper} {f : Nat} {listed : Array Bool} {a : Act} {w : World} (hr : Region.ready md ops listed = [k]) (ho : ops[k]? = some o) (hg : Region.wanted o (yielded ops a.tmps) = true) (hI : I k = true)
    (h : ∀ K : Act → World → Prop, (∀ a' w'', R w w'' → (∀ w3, Reg.E w'' w3 → RegP.wpM P md ops Q R I f true (listed.setIfInBounds k true) a' w3) → K a' w'') → o.wp P a w K (Reg.QN Q)) : RegP.wpM P md ops Q R I (f + 1) true listed a w :=
  ⟨fun h0 => (by rw [hr] at h0; cases h0), fun j hj => by
    rw [hr] at hj
    obtain rfl : j = k := by simpa using hj
    unfold Go.wpOp
    simp only [ho]
    rw [if_pos hg]
    refine .inl (Oper.wp_mono (fun a' w'' h' => ?_) (h (fun a' w'' => R w w'' ∧ ∀ w3, Reg.E w'' w3 → RegP.wpM P md ops Q R I f true (listed.setIfInBounds j true) a' w3) (fun _ _ h1 h2 => ⟨h1, h2⟩)))
    simp only [Bool.true_and, hI, if_true]
    exact h'⟩
theorem rest_off (hR : RegP.Prot R) {k : Nat} {o : Oper} {f : Nat} {listed : Array Bool} {a : Act} {w : World} (hr : Region.ready md ops listed = [k]) (ho : ops[k]? = some o) (hg : Region.wanted o (yielded ops a.tmps) = false) (hI : I k = true)
    (h : ∀ K : Act → World → Prop, (∀ a' w'', (∀ w3, Reg.E w'' w3 → RegP.wpM P md ops Q R I f true (listed.setIfInBounds k true) a' w3) → K a' w'') → K (a.put o.dst undef) w) : RegP.wpM P md ops Q R I (f + 1) true listed a w :=
  ⟨fun h0 => (by rw [hr] at h0; cases h0), fun j hj => by
    rw [hr] at hj
    obtain rfl : j = k := by simpa using hj
    unfold Go.wpOp
    simp only [ho]
    rw [if_neg (by rw [hg]; simp)]
    simp only [Bool.true_and, hI, if_true]
    exact ⟨hR.refl _, h (fun a' w'' => ∀ w3, Reg.E w'' w3 → RegP.wpM P md ops Q R I f true (listed.setIfInBounds j true) a' w3) (fun _ _ h1 => h1)⟩⟩
end
theorem infoItem : (Tryz.prog.info? 95).map (fun i => (i.zero, i.size, i.bytes)) = some (some (.agg #[.int .u64 (0), .int .u32 (0), .int .u32 (0), .int .i64 (0), .int .u64 (0), .int .u32 (0), .int .u32 (0)]), 7, 40) := by kernel_rfl
/-- A growing slice of items, and what is below. -/
structure One (w w1 : World) (v : Value) (n : Nat) (xs : List Value) : Prop where
  own : w1.ownsRow w.heap.size 95 7 v n xs
  below : Below w.heap.size w w1
theorem One.E {w w1 w2 : World} {v : Value} {n : Nat} {xs : List Value} (h : One w w1 v n xs) (he : Reg.E w1 w2) : One w w2 v n xs :=
  ⟨own_E h.own he, h.below.trans (he.to h.below.size)⟩
/-- The cells lie at a. -/
def AtA (w : World) (a : Addr) (news : List Value) : Prop := ∀ (j : Nat) (u : Value), news[j]? = some u → w.cell? (a.add j) = some u
theorem One.app {w w1 : World} {v : Value} {n m c : Nat} {xs news : List Value} {ty : TypeId} {ad : Addr} (h : One w w1 v n xs) (hn : AtA w1 ad news) (hl : news.length = m * 7) (h1 : ∀ u ∈ news, u.oneCell' = true) (hm : n + m ≤ 1000000) :
    ∃ v' w2, (Builtin.append_ #[93, 93] ty #[v, .slice (some ad) m c]).run Tryz.prog w1 = .ok v' w2 ∧ One w w2 v' (n + m) (xs ++ news) ∧
      (∀ b' o, w1.heap[b']? = some o → v.ownBlock ≠ some b' → w2.heap[b']? = some o ∧ v'.ownBlock ≠ some b') ∧ w1.heap.size ≤ w2.heap.size := by
  obtain ⟨i0, hi, hz0, hz1, hz2⟩ := info_parts infoItem
  obtain ⟨v', w2, k1, k2, k3, k4, k5⟩ := run_append_own_at (P := Tryz.prog) (w := w1) w.heap.size 93 ty 95 i0 _ 7 40 Tryz.underlying93 hi hz0 hz1 hz2 rfl (by decide) v n xs h.own ad m c news hl hn h1 (by unfold maxLen; omega) (by omega) h.below.size
  refine ⟨v', w2, k1, ⟨k2, Below.grown h.below k3 h.below.size (fun q hq => (h.own.lt q hq).1)⟩, fun b' o hb e1 => ?_, k3.size⟩
  have hlt := (Array.getElem?_eq_some_iff.1 hb).1
  refine ⟨(k3.block b' hlt (fun e => e1 e.symm)).trans hb, fun e => ?_⟩
  rcases k5 with k5 | k5
  · rw [k5] at e; exact e1 e
  · rw [k5] at e; injection e with e; omega
/-- Block b holds o, and is not the slice's. -/
def Off1 (o : Obj) (w1 : World) (b : Nat) (v : Value) : Prop := w1.heap[b]? = some o ∧ v.ownBlock ≠ some b
theorem Off1.E {o : Obj} {w1 w2 : World} {b : Nat} {v : Value} (h : Off1 o w1 b v) (he : Reg.E w1 w2) : Off1 o w2 b v :=
  ⟨(he.block b (Array.getElem?_eq_some_iff.1 h.1).1).trans h.1, h.2⟩
theorem Off1.step {o : Obj} {w1 w2 : World} {b : Nat} {v v' : Value} (h : Off1 o w1 b v)
    (hk : ∀ b' o, w1.heap[b']? = some o → v.ownBlock ≠ some b' → w2.heap[b']? = some o ∧ v'.ownBlock ≠ some b') (hs : w1.heap.size ≤ w2.heap.size) : Off1 o w2 b v' ∧ RK b w1 w2 := by
  obtain ⟨k1, k2⟩ := hk b o h.1 h.2
  exact ⟨⟨k1, k2⟩, hs, fun _ => k1.trans h.1.symm⟩
structure New1 (w1 : World) (b : Nat) (v : Value) (news : List Value) : Prop where
  blk : w1.heap[b]? = some (.cells ⟨news⟩ 95 (0, 0))
  ne : v.ownBlock ≠ some b
theorem New1.E {w1 w2 : World} {b : Nat} {v : Value} {news : List Value} (h : New1 w1 b v news) (he : Reg.E w1 w2) : New1 w2 b v news :=
  ⟨(he.block b (Array.getElem?_eq_some_iff.1 h.blk).1).trans h.blk, h.ne⟩
theorem New1.step {w1 w2 : World} {b : Nat} {v v' : Value} {news : List Value} (h : New1 w1 b v news)
    (hk : ∀ b' o, w1.heap[b']? = some o → v.ownBlock ≠ some b' → w2.heap[b']? = some o ∧ v'.ownBlock ≠ some b') : New1 w2 b v' news := by
  obtain ⟨k1, k2⟩ := hk b _ h.blk h.ne
  exact ⟨k1, k2⟩
theorem New1.at {w1 : World} {b : Nat} {v : Value} {news : List Value} (h : New1 w1 b v news) : AtA w1 ⟨b, 0, none⟩ news := by
  intro j u hj
  have hadd : (⟨b, 0, none⟩ : Addr).add j = ⟨b, j, none⟩ := by unfold Addr.add; split <;> simp_all
  rw [hadd]
  simp [World.cell?, h.blk, hj]
/-- A new slice without elements. -/
theorem One.start {w w1 : World} (hb : Below w.heap.size w w1) : One w (w1.alloc (.cells #[] 95)) (.slice (some ⟨w1.heap.size, 0, none⟩) 0 0) 0 [] :=
  ⟨World.ownsRow_made w1 #[] 0 hb.size (by unfold maxLen; omega) rfl, hb.alloc hb.size _⟩
theorem oneCell_items : ∀ (l : List It), ∀ u ∈ cellsI l, u.oneCell' = true := by
  intro l u hu
  simp only [cellsI, List.mem_flatMap, It.cells] at hu
  obtain ⟨a, _, ha⟩ := hu
  simp at ha
  rcases ha with rfl | rfl | rfl | rfl | rfl | rfl | rfl <;> rfl
theorem cellsI_len : ∀ (l : List It), (cellsI l).length = l.length * 7
  | [] => rfl
  | a :: l => by
    have := cellsI_len l
    simp only [cellsI, List.flatMap_cons, List.length_append, List.length_cons, It.cells] at *
    simp only [List.length_nil]
    omega

theorem One.appL {w w1 : World} {v : Value} {l : List It} {ao : Option Addr} {cap : Nat} {ty : TypeId} (h : One w w1 v 0 []) (hc : At w1 ao (cellsI l)) (hnone : ao = none → cap = 0) (hm : l.length ≤ 1000000) :
    ∃ v' w2, (Builtin.append_ #[93, 93] ty #[v, .slice ao l.length cap]).run Tryz.prog w1 = .ok v' w2 ∧ One w w2 v' l.length (cellsI l) ∧
      (∀ b' o, w1.heap[b']? = some o → v.ownBlock ≠ some b' → w2.heap[b']? = some o ∧ v'.ownBlock ≠ some b') ∧ w1.heap.size ≤ w2.heap.size := by
  cases ao with
  | some ad =>
    have := h.app (ty := ty) (m := l.length) (c := cap) (ad := ad) (news := cellsI l) (fun j u hj => by
      obtain ⟨ad', e, hcc⟩ := hc j u hj
      obtain rfl : ad = ad' := Option.some.inj e
      exact hcc) (cellsI_len l) (oneCell_items l) (by omega)
    simpa only [Nat.zero_add, List.nil_append] using this
  | none =>
    have hnil : l = [] := by
      cases l with
      | nil => rfl
      | cons a l =>
        obtain ⟨ad, e, _⟩ := hc 0 (.int .u64 a.t) (by simp [cellsI, It.cells])
        cases e
    subst hnil
    have hcap := hnone rfl
    subst hcap
    obtain ⟨i0, hi, hz0, hz1, hz2⟩ := info_parts infoItem
    refine ⟨v, w1, run_append_owned_none (P := Tryz.prog) w1 w.heap.size 93 ty 95 i0 7 Tryz.underlying93 hi v 0 [] h.own, by simpa [cellsI] using h, fun b' o hb e => ⟨hb, e⟩, Nat.le_refl _⟩
set_option maxHeartbeats 40000000 in
set_option maxRecDepth 100000 in
theorem law_Grows (t0 : Int) (ao : Option Addr) (cap : Nat) (l : List It) (t r x i u s y : Int) (w : World) (hbig : l.length ≤ 9223372036854775807) (hnone : ao = none → cap = 0) (hc : At w ao (cellsI l)) :
    Calls Tryz.prog 12 #[.int .u64 t0, .slice ao l.length cap, (.agg #[.int .u64 (t), .int .u32 (r), .int .u32 (x), .int .i64 (i), .int .u64 (u), .int .u32 (s), .int .u32 (y)])] w (Ret w (.bool true)) := by
  have AW := Ev.aw13
  by_cases hl : 40 < l.length
  · generalize l.length = n at *
    have hl2 : (40 : Int) < n := by omega
    clear hc hnone
    go_enter Tryz.func12, Tryz.ntmps12
    go_wp2_with (go_at_call 58; refine (AW _).mono ?_; rintro e w1 ⟨rfl, hb1⟩; obtain ⟨hc1, hf1⟩ := bcell hb1; (try simp only [World.heap_drewN, World.cell?_drewN] at hc1); (try simp only [World.heap_drewN, World.frozen?_drewN] at hf1); have hz1 := bsize hb1; (try simp only [World.size_alloc, World.size_setCell, World.size_drew, World.heap_drewN] at hz1); (try (have hs0 : w.heap.size < w1.heap.size := by omega)); (try (have hs1 : w.heap.size + 1 < w1.heap.size := by omega)); (try (have hs2 : w.heap.size + 2 < w1.heap.size := by omega)); (try (have hs3 : w.heap.size + 3 < w1.heap.size := by omega)))
    refine bodyPost_ret (by simp [*, results, Tryz.results12, go_sem]; try rfl) rfl ?_
    exact ⟨eqRet rfl, by (repeat' (first | (with_reducible exact Below.refl _ _) | (with_reducible refine Below.alloc ?_ ?_ _) | (with_reducible refine Below.setCell ?_ ?_ _) | (with_reducible refine Below.drew ?_) | (with_reducible refine belowN ?_ _) | (with_reducible refine bthen (by assumption) ?_ ?_) | omega | (simp only [World.size_alloc, World.size_setCell, World.size_drew, World.heap_drewN] at *; omega) | (simp; omega)))⟩
  · go_enter Tryz.func12, Tryz.ntmps12
    generalize hn : l.length = n at *
    have hl2 : ¬ (40 : Int) < n := by omega
    go_wp2_with fail
    refine (AW _).mono ?_
    rintro e w1 ⟨rfl, hb1⟩
    obtain ⟨hc1, hf1⟩ := bcell hb1
    have hz1 := bsize hb1
    (try simp only [World.size_alloc] at hz1)
    have hs1 : w.heap.size < w1.heap.size := by omega
    have m0 : w1.cell? ⟨w.heap.size, 0, none⟩ = some (.int .u64 t) := by go_simp
    have m1 : w1.cell? ⟨w.heap.size, 1, none⟩ = some (.int .u32 r) := by go_simp
    have m2 : w1.cell? ⟨w.heap.size, 2, none⟩ = some (.int .u32 x) := by go_simp
    have m3 : w1.cell? ⟨w.heap.size, 3, none⟩ = some (.int .i64 i) := by go_simp
    have m4 : w1.cell? ⟨w.heap.size, 4, none⟩ = some (.int .u64 u) := by go_simp
    have m5 : w1.cell? ⟨w.heap.size, 5, none⟩ = some (.int .u32 s) := by go_simp
    have m6 : w1.cell? ⟨w.heap.size, 6, none⟩ = some (.int .u32 y) := by go_simp
    have hb0 : Below w.heap.size w w1 := (Below.alloc (Below.refl _ _) (Nat.le_refl _) _).trans (hb1.mono (by simp))
    have o1 : w1.heap[w.heap.size]? = some (.cells #[.int .u64 t, .int .u32 r, .int .u32 x, .int .i64 i, .int .u64 u, .int .u32 s, .int .u32 y] 95) := (hb1.block _ (by simp)).trans (MapKept.heap_alloc w _).1
    clear hc1 hf1 hb1
    go_wp2_with fail
    have hcw : ∀ w', Below w.heap.size w w' → At w' ao (cellsI l) := fun w' h => hc.below h
    have hlen : l.length ≤ 1000000 := by omega
    refine RegP.wp_region_P (R := RK w.heap.size) (hd := [1, 3]) (I := fun _ => true) (RK_prot _) (by kernel_rfl) (by kernel_rfl) ?_
    iterate 2 (first
      | (refine RegP.hd_pure rfl rfl rfl (fun K hK => ?_); apply Exists.intro; refine ⟨fun w2 => ?_, ?_⟩; (go_simp; exact .mk); (go_simp; refine hK _ ?_; clear hK K))
      | (refine RegP.hd_cps rfl rfl rfl (fun K hK => ?_); apply Exists.intro; refine ⟨fun w2 hR => ?_, ?_⟩; (have d0 := hR.cell 0 m0; have d1 := hR.cell 1 m1; have d2 := hR.cell 2 m2; have d3 := hR.cell 3 m3; have d4 := hR.cell 4 m4; have d5 := hR.cell 5 m5; have d6 := hR.cell 6 m6; go_simp; exact .value (Reg.E.refl _)); (go_simp; refine hK _ ?_; clear hK K)))
    refine RegP.hd_nil ?_
    intro w3 hE3
    have hb3 : Below w.heap.size w w3 := hb0.trans ((Reg.E.trans (Below.drew (Below.refl _ _)) hE3 : Reg.E w1 w3).to hb0.size)
    have hk3 : w3.heap[w.heap.size]? = some (.cells #[.int .u64 t, .int .u32 r, .int .u32 x, .int .i64 i, .int .u64 u, .int .u32 s, .int .u32 y] 95) := ((Reg.E.trans (Below.drew (Below.refl _ _)) hE3 : Reg.E w1 w3).block _ hs1).trans o1
    have hs3 : w.heap.size < w3.heap.size := by
      exact (Array.getElem?_eq_some_iff.1 hk3).1
    refine rest_two_cps (f := 4) (k := 0) (k2 := 4) (by kernel_rfl) rfl rfl rfl rfl rfl rfl (fun K hK => ?_) (fun K hK => ?_)
    · unfold Oper.wp
      go_simp
      refine hK _ _ (RK.alloc _ _ _) ?_
      clear hK K
      intro w4 hE4
      have one4 := (One.start hb3).E hE4
      have off4 : Off1 (.cells #[.int .u64 t, .int .u32 r, .int .u32 x, .int .i64 i, .int .u64 u, .int .u32 s, .int .u32 y] 95) w4 w.heap.size (.slice (some ⟨w3.heap.size, 0, none⟩) 0 0) := by
        refine Off1.E ⟨(Reg.E.alloc w3 _).block _ hs3 |>.trans hk3, ?_⟩ hE4
        simp only [Value.ownBlock, ne_eq, Option.some.injEq]
        omega
      refine rest_two_cps (f := 3) (k := 2) (k2 := 4) (by kernel_rfl) rfl rfl rfl rfl rfl rfl (fun K hK => ?_) (fun K hK => ?_)
      · obtain ⟨v1, w5, e5, one6, keep5, hsz⟩ := one4.appL (ty := 93) (cap := cap) (hcw w4 one4.below) hnone hlen
        rw [hn] at e5 one6
        unfold Oper.wp
        rw [Ev.evalL_eq, Ev.run_app (s := .tmp 15) (x := .tmp 16) (t := 93) (u := 93) rfl]
        erw [e5]
        simp only [Oper.upon]
        obtain ⟨off6, hrk⟩ := (off4).step keep5 hsz
        go_simp
        refine hK _ _ hrk ?_
        clear hK K hrk hsz e5
        intro w6 hE6
        replace one6 := (one6).E hE6
        replace off6 := (off6).E hE6
        refine rest_one_cps (f := 2) (k := 4) (by kernel_rfl) rfl rfl rfl (fun K hK => ?_)
        unfold Oper.wp
        go_simp
        refine hK _ _ (RK.alloc _ _ _) ?_
        clear hK K
        intro w7 hE7
        have new7 : New1 w7 _ v1 (It.cells ⟨t, r, x, i, u, s, y⟩) := New1.E ⟨(MapKept.heap_alloc _ _).1, fun e => (by have := ((one6).own.lt _ e).2; omega)⟩ hE7
        replace one6 := ((one6).E (Reg.E.alloc _ _)).E hE7
        replace off6 := ((off6).E (Reg.E.alloc _ _)).E hE7
        refine rest_one_cps (f := 1) (k := 5) (by kernel_rfl) rfl rfl rfl (fun K hK => ?_)
        obtain ⟨v9, w9, e9, one9, keep9, hsz⟩ := (one6).app (ty := 93) (m := 1) (c := 1) (new7).at rfl (by simp [It.cells, Value.oneCell']) (by omega)
        unfold Oper.wp
        rw [Ev.evalL_eq, Ev.run_app (s := .tmp 17) (x := .tmp 19) (t := 93) (u := 93) rfl]
        erw [e9]
        simp only [Oper.upon]
        obtain ⟨off9, hrk⟩ := (off6).step keep9 hsz
        go_simp
        refine hK _ _ hrk ?_
        clear hK K hrk hsz e9
        intro w10 hE10
        replace one9 := (one9).E hE10
        replace off9 := (off9).E hE10
        refine rest_one_cps (f := 0) (k := 6) (by kernel_rfl) rfl rfl rfl (fun K hK => ?_)
        unfold Oper.wp
        go_simp
        refine hK _ _ ((RK_prot _).refl _) ?_
        clear hK K
        intro w20 hE20
        refine RegP.rest_end (by kernel_rfl) ?_
        replace one9 := (one9).E hE20
        replace off9 := (off9).E hE20
        clear hE20
        rw [show cellsI l ++ It.cells ⟨t, r, x, i, u, s, y⟩ = cellsI (l ++ [⟨t, r, x, i, u, s, y⟩]) by simp [cellsI]] at one9
        have hb20 := one9.below
        obtain ⟨ho1, ho2⟩ := one9.own
        rcases ho2 with ⟨_, hz⟩ | ⟨g, cap9, cur, rfl, h1, h2, h3, h4, h5, h6⟩
        · omega
        have hAt9 : At w20 (some ⟨g, 0, none⟩) (cellsI (l ++ [⟨t, r, x, i, u, s, y⟩])) := fun j u hj => ⟨_, rfl, World.ownsRow.cells (v := .slice (some ⟨g, 0, none⟩) (n + 1) cap9) ⟨ho1, .inr ⟨g, cap9, cur, rfl, h1, h2, h3, h4, h5, h6⟩⟩ rfl j u hj⟩
        have hl9 : (l ++ [(⟨t, r, x, i, u, s, y⟩ : It)]).length = n + 1 := by simp [hn]
        have RM := fun w' (h : Below w20.heap.size w20 w') => span_Room t0 (some ⟨g, 0, none⟩) cap9 (l ++ [⟨t, r, x, i, u, s, y⟩]) w' (by omega) (hAt9.below h)
        have WM := fun w' (h : Below w20.heap.size w20 w') => span_Within t0 (some ⟨g, 0, none⟩) cap9 (l ++ [⟨t, r, x, i, u, s, y⟩]) w' (by omega) (hAt9.below h)
        have RL := fun w' (h : Below w20.heap.size w20 w') => span_Room t0 ao cap l w' (by omega) (hcw w' (hb20.trans (h.mono hb20.size)))
        have WL := fun w' (h : Below w20.heap.size w20 w') => span_Within t0 ao cap l w' (by omega) (hcw w' (hb20.trans (h.mono hb20.size)))
        rw [hl9] at RM WM
        rw [hn] at RL WL
        have n0 : w20.heap[w.heap.size]? = some (.cells #[.int .u64 t, .int .u32 r, .int .u32 x, .int .i64 i, .int .u64 u, .int .u32 s, .int .u32 y] 95) := off9.1
        have hA : l ≠ [] → roomI t0 (l ++ [⟨t, r, x, i, u, s, y⟩]) ≤ roomI t0 l := fun h => room_grows t0 h _
        have hB : l ≠ [] → withinI t0 (l ++ [⟨t, r, x, i, u, s, y⟩]) = true → withinI t0 l = true := fun h => within_grows t0 h _
        generalize roomI t0 (l ++ [⟨t, r, x, i, u, s, y⟩]) = A1 at *
        generalize roomI t0 l = A2 at *
        generalize withinI t0 (l ++ [⟨t, r, x, i, u, s, y⟩]) = B1 at *
        generalize withinI t0 l = B2 at *
        clear one9 off9 ho1 h1 h2 h3 h4 h5 h6 hAt9 hl9 hcw hc
        by_cases hn0 : n = 0
        · subst hn0
          clear RM WM RL WL hA hB
          go_wp2_with fail
          have nW := n0
          have hbW := hb20
          have q0 : (w20).cell? ⟨w.heap.size, 0, none⟩ = some (.int .u64 t) := by simp [World.cell?, nW]
          have q1 : (w20).cell? ⟨w.heap.size, 1, none⟩ = some (.int .u32 r) := by simp [World.cell?, nW]
          have q2 : (w20).cell? ⟨w.heap.size, 2, none⟩ = some (.int .u32 x) := by simp [World.cell?, nW]
          have q3 : (w20).cell? ⟨w.heap.size, 3, none⟩ = some (.int .i64 i) := by simp [World.cell?, nW]
          have q4 : (w20).cell? ⟨w.heap.size, 4, none⟩ = some (.int .u64 u) := by simp [World.cell?, nW]
          have q5 : (w20).cell? ⟨w.heap.size, 5, none⟩ = some (.int .u32 s) := by simp [World.cell?, nW]
          have q6 : (w20).cell? ⟨w.heap.size, 6, none⟩ = some (.int .u32 y) := by simp [World.cell?, nW]
          have RI := fun w => item_Right t r x i u s y w
          have RO := fun h => room_one ⟨t, r, x, i, u, s, y⟩ h
          simp only [] at RO
          cases hri : rightI t r x i u s y
          · rw [hri] at RI
            clear RO
            refine RegP.wp_region_P (R := RK w.heap.size) (hd := [0, 1, 2, 3, 4, 5, 6, 7, 10, 11, 12, 13, 14, 15]) (I := fun _ => true) (RK_prot _) (by kernel_rfl) (by kernel_rfl) ?_
            iterate 14 (first
              | (refine hd_off rfl rfl (fun K hK => ?_); (go_simp; refine hK _ ?_; clear hK K))
              | (refine hd_pure_on rfl rfl rfl (fun K hK => ?_); apply Exists.intro; refine ⟨fun w2 => ?_, ?_⟩; (go_simp; exact .mk); (go_simp; refine hK _ ?_; clear hK K))
              | (refine hd_cps_on rfl rfl rfl (fun K hK => ?_); apply Exists.intro; refine ⟨fun w2 hR => ?_, ?_⟩; (have d0 := hR.cell 0 q0; have d1 := hR.cell 1 q1; have d2 := hR.cell 2 q2; have d3 := hR.cell 3 q3; have d4 := hR.cell 4 q4; have d5 := hR.cell 5 q5; have d6 := hR.cell 6 q6; go_simp; first | (exact .value (Reg.E.refl _)) | (exact .enter (Reg.E.refl _) (RI w2))); (go_simp; refine hK _ ?_; clear hK K)))
            refine RegP.hd_nil ?_
            intro w30 hE30
            refine rest_off (RK_prot _) (f := 7) (k := 8) (by kernel_rfl) rfl rfl rfl (fun K hK => ?_)
            go_simp
            refine hK _ _ ?_
            clear hK K
            intro w31 hE31
            refine rest_off (RK_prot _) (f := 6) (k := 9) (by kernel_rfl) rfl rfl rfl (fun K hK => ?_)
            go_simp
            refine hK _ _ ?_
            clear hK K
            intro w32 hE32
            refine rest_off (RK_prot _) (f := 5) (k := 16) (by kernel_rfl) rfl rfl rfl (fun K hK => ?_)
            go_simp
            refine hK _ _ ?_
            clear hK K
            intro w33 hE33
            refine rest_off (RK_prot _) (f := 4) (k := 17) (by kernel_rfl) rfl rfl rfl (fun K hK => ?_)
            go_simp
            refine hK _ _ ?_
            clear hK K
            intro w34 hE34
            refine rest_off (RK_prot _) (f := 3) (k := 18) (by kernel_rfl) rfl rfl rfl (fun K hK => ?_)
            go_simp
            refine hK _ _ ?_
            clear hK K
            intro w35 hE35
            refine rest_off (RK_prot _) (f := 2) (k := 19) (by kernel_rfl) rfl rfl rfl (fun K hK => ?_)
            go_simp
            refine hK _ _ ?_
            clear hK K
            intro w36 hE36
            refine rest_on (f := 1) (k := 20) (by kernel_rfl) rfl rfl rfl (fun K hK => ?_)
            unfold Oper.wp
            go_simp
            refine hK _ _ ((RK_prot _).refl _) ?_
            clear hK K
            intro w37 hE37
            refine rest_on (f := 0) (k := 21) (by kernel_rfl) rfl rfl rfl (fun K hK => ?_)
            unfold Oper.wp
            go_simp
            refine hK _ _ ((RK_prot _).refl _) ?_
            clear hK K
            intro w38 hE38
            refine RegP.rest_end (by kernel_rfl) ?_
            have hEE : Reg.E (w20) w38 := Reg.E.trans (Reg.E.trans (Below.drew (Below.refl _ _)) hE30) (hE31.trans (hE32.trans (hE33.trans (hE34.trans (hE35.trans (hE36.trans (hE37.trans hE38)))))))
            have hbW' : Below w.heap.size w w38 := hbW.trans (hEE.to hbW.size)
            clear hE30 hE31 hE32 hE33 hE34 hE35 hE36 hE37 hE38 hEE
            go_wp2_with fail
            refine bodyPost_ret (by simp [*, results, Tryz.results12, go_sem]; try rfl) rfl ?_
            exact ⟨rfl, hbW'⟩
          · rw [hri] at RI
            replace RO := RO hri
            refine RegP.wp_region_P (R := RK w.heap.size) (hd := [0, 1, 2, 3, 4, 5, 6, 7, 10, 11, 12, 13, 14, 15]) (I := fun _ => true) (RK_prot _) (by kernel_rfl) (by kernel_rfl) ?_
            iterate 14 (first
              | (refine hd_off rfl rfl (fun K hK => ?_); (go_simp; refine hK _ ?_; clear hK K))
              | (refine hd_pure_on rfl rfl rfl (fun K hK => ?_); apply Exists.intro; refine ⟨fun w2 => ?_, ?_⟩; (go_simp; exact .mk); (go_simp; refine hK _ ?_; clear hK K))
              | (refine hd_cps_on rfl rfl rfl (fun K hK => ?_); apply Exists.intro; refine ⟨fun w2 hR => ?_, ?_⟩; (have d0 := hR.cell 0 q0; have d1 := hR.cell 1 q1; have d2 := hR.cell 2 q2; have d3 := hR.cell 3 q3; have d4 := hR.cell 4 q4; have d5 := hR.cell 5 q5; have d6 := hR.cell 6 q6; go_simp; first | (exact .value (Reg.E.refl _)) | (exact .enter (Reg.E.refl _) (RI w2))); (go_simp; refine hK _ ?_; clear hK K)))
            refine RegP.hd_nil ?_
            intro w30 hE30
            refine rest_on (f := 7) (k := 8) (by kernel_rfl) rfl rfl rfl (fun K hK => ?_)
            unfold Oper.wp
            go_simp
            refine hK _ _ (RK.alloc _ _ _) ?_
            clear hK K
            intro w31 hE31
            have blk31 : w31.heap[w30.heap.size]? = some (.cells ⟨It.cells ⟨t, r, x, i, u, s, y⟩⟩ 95 (0, 0)) := (hE31.block _ (by simp)).trans (MapKept.heap_alloc _ _).1
            have R9 := span_Room t (some ⟨w30.heap.size, 0, none⟩) 1 [⟨t, r, x, i, u, s, y⟩] w31 (by simp) (fun j v hj => ⟨_, rfl, by
              have hadd : (⟨w30.heap.size, 0, none⟩ : Addr).add j = ⟨w30.heap.size, j, none⟩ := by unfold Addr.add; split <;> simp_all
              rw [hadd]
              simp only [cellsI, List.flatMap_cons, List.flatMap_nil, List.append_nil] at hj
              simp [World.cell?, blk31, hj]⟩)
            rw [RO] at R9
            refine rest_on (f := 6) (k := 9) (by kernel_rfl) rfl rfl rfl (fun K hK => ?_)
            unfold Oper.wp
            go_simp
            refine R9.mono ?_
            rintro e w32 ⟨rfl, hb32⟩
            refine hK _ _ ((RK_prot _).ofE hb32) ?_
            clear hK K R9
            intro w33 hE33
            refine rest_on (f := 5) (k := 16) (by kernel_rfl) rfl rfl rfl (fun K hK => ?_)
            unfold Oper.wp
            go_simp
            refine (vtime_Since u t w33).mono ?_
            rintro e w34 ⟨rfl, hb34⟩
            refine hK _ _ ((RK_prot _).ofE hb34) ?_
            clear hK K
            intro w35 hE35
            generalize since u t = d at *
            refine rest_on (f := 4) (k := 17) (by kernel_rfl) rfl rfl rfl (fun K hK => ?_)
            unfold Oper.wp
            go_simp
            refine hK _ _ ((RK_prot _).refl _) ?_
            clear hK K
            intro w36 hE36
            refine rest_on (f := 3) (k := 18) (by kernel_rfl) rfl rfl rfl (fun K hK => ?_)
            unfold Oper.wp
            go_simp
            refine hK _ _ ((RK_prot _).refl _) ?_
            clear hK K
            intro w37 hE37
            refine rest_on (f := 2) (k := 19) (by kernel_rfl) rfl rfl rfl (fun K hK => ?_)
            unfold Oper.wp
            go_simp
            refine hK _ _ ((RK_prot _).refl _) ?_
            clear hK K
            intro w38 hE38
            refine rest_on (f := 1) (k := 20) (by kernel_rfl) rfl rfl rfl (fun K hK => ?_)
            unfold Oper.wp
            go_simp
            refine hK _ _ ((RK_prot _).refl _) ?_
            clear hK K
            intro w39 hE39
            refine rest_on (f := 0) (k := 21) (by kernel_rfl) rfl rfl rfl (fun K hK => ?_)
            unfold Oper.wp
            go_simp
            refine hK _ _ ((RK_prot _).refl _) ?_
            clear hK K
            intro w40 hE40
            refine RegP.rest_end (by kernel_rfl) ?_
            have hEE : Reg.E (w20) w40 := Reg.E.trans (Reg.E.trans (Below.drew (Below.refl _ _)) hE30) ((Reg.E.alloc _ _).trans (hE31.trans ((show Reg.E w31 w32 from hb32).trans (hE33.trans ((show Reg.E w33 w34 from hb34).trans (hE35.trans (hE36.trans (hE37.trans (hE38.trans (hE39.trans hE40))))))))))
            have hbW' : Below w.heap.size w w40 := hbW.trans (hEE.to hbW.size)
            clear hE30 hE31 hb32 hE33 hb34 hE35 hE36 hE37 hE38 hE39 hE40 hEE
            go_wp2_with fail
            refine bodyPost_ret (by simp [*, results, Tryz.results12, go_sem]; try rfl) rfl ?_
            exact ⟨rfl, hbW'⟩
        · have hne : l ≠ [] := by
            intro h
            subst h
            simp at hn
            omega
          replace hA := hA hne
          replace hB := hB hne
          have hgt : ¬ A2 < A1 := by omega
          have hnpos : (0 : Int) < n := by omega
          have hb5 : w.heap.size < w20.heap.size := (Array.getElem?_eq_some_iff.1 n0).1
          clear hA hne
          go_wp2_with fail
          refine (RM _ (Below.refl _ _)).mono ?_
          rintro e w21 ⟨rfl, hb21⟩
          go_wp2_with fail
          refine (RL _ hb21).mono ?_
          rintro e w22 ⟨rfl, hb22⟩
          have hb2 := hb21.trans (hb22.mono hb21.size)
          clear RM RL hb21 hb22
          go_wp2_with fail
          refine (WM _ hb2).mono ?_
          rintro e w23 ⟨rfl, hb23⟩
          have hb3 := hb2.trans (hb23.mono hb2.size)
          clear WM hb2 hb23
          cases hB1 : B1
          · subst hB1
            clear hB WL
            go_wp2_with fail
            have nW := (hb3.block _ hb5).trans n0
            have hbW := hb20.trans (hb3.mono hb20.size)
            have q0 : (w23).cell? ⟨w.heap.size, 0, none⟩ = some (.int .u64 t) := by simp [World.cell?, nW]
            have q1 : (w23).cell? ⟨w.heap.size, 1, none⟩ = some (.int .u32 r) := by simp [World.cell?, nW]
            have q2 : (w23).cell? ⟨w.heap.size, 2, none⟩ = some (.int .u32 x) := by simp [World.cell?, nW]
            have q3 : (w23).cell? ⟨w.heap.size, 3, none⟩ = some (.int .i64 i) := by simp [World.cell?, nW]
            have q4 : (w23).cell? ⟨w.heap.size, 4, none⟩ = some (.int .u64 u) := by simp [World.cell?, nW]
            have q5 : (w23).cell? ⟨w.heap.size, 5, none⟩ = some (.int .u32 s) := by simp [World.cell?, nW]
            have q6 : (w23).cell? ⟨w.heap.size, 6, none⟩ = some (.int .u32 y) := by simp [World.cell?, nW]
            have RI := fun w => item_Right t r x i u s y w
            have RO := fun h => room_one ⟨t, r, x, i, u, s, y⟩ h
            simp only [] at RO
            cases hri : rightI t r x i u s y
            · rw [hri] at RI
              clear RO
              refine RegP.wp_region_P (R := RK w.heap.size) (hd := [0, 1, 2, 3, 4, 5, 6, 7, 10, 11, 12, 13, 14, 15]) (I := fun _ => true) (RK_prot _) (by kernel_rfl) (by kernel_rfl) ?_
              iterate 14 (first
                | (refine hd_off rfl rfl (fun K hK => ?_); (go_simp; refine hK _ ?_; clear hK K))
                | (refine hd_pure_on rfl rfl rfl (fun K hK => ?_); apply Exists.intro; refine ⟨fun w2 => ?_, ?_⟩; (go_simp; exact .mk); (go_simp; refine hK _ ?_; clear hK K))
                | (refine hd_cps_on rfl rfl rfl (fun K hK => ?_); apply Exists.intro; refine ⟨fun w2 hR => ?_, ?_⟩; (have d0 := hR.cell 0 q0; have d1 := hR.cell 1 q1; have d2 := hR.cell 2 q2; have d3 := hR.cell 3 q3; have d4 := hR.cell 4 q4; have d5 := hR.cell 5 q5; have d6 := hR.cell 6 q6; go_simp; first | (exact .value (Reg.E.refl _)) | (exact .enter (Reg.E.refl _) (RI w2))); (go_simp; refine hK _ ?_; clear hK K)))
              refine RegP.hd_nil ?_
              intro w30 hE30
              refine rest_off (RK_prot _) (f := 7) (k := 8) (by kernel_rfl) rfl rfl rfl (fun K hK => ?_)
              go_simp
              refine hK _ _ ?_
              clear hK K
              intro w31 hE31
              refine rest_off (RK_prot _) (f := 6) (k := 9) (by kernel_rfl) rfl rfl rfl (fun K hK => ?_)
              go_simp
              refine hK _ _ ?_
              clear hK K
              intro w32 hE32
              refine rest_off (RK_prot _) (f := 5) (k := 16) (by kernel_rfl) rfl rfl rfl (fun K hK => ?_)
              go_simp
              refine hK _ _ ?_
              clear hK K
              intro w33 hE33
              refine rest_off (RK_prot _) (f := 4) (k := 17) (by kernel_rfl) rfl rfl rfl (fun K hK => ?_)
              go_simp
              refine hK _ _ ?_
              clear hK K
              intro w34 hE34
              refine rest_off (RK_prot _) (f := 3) (k := 18) (by kernel_rfl) rfl rfl rfl (fun K hK => ?_)
              go_simp
              refine hK _ _ ?_
              clear hK K
              intro w35 hE35
              refine rest_off (RK_prot _) (f := 2) (k := 19) (by kernel_rfl) rfl rfl rfl (fun K hK => ?_)
              go_simp
              refine hK _ _ ?_
              clear hK K
              intro w36 hE36
              refine rest_on (f := 1) (k := 20) (by kernel_rfl) rfl rfl rfl (fun K hK => ?_)
              unfold Oper.wp
              go_simp
              refine hK _ _ ((RK_prot _).refl _) ?_
              clear hK K
              intro w37 hE37
              refine rest_on (f := 0) (k := 21) (by kernel_rfl) rfl rfl rfl (fun K hK => ?_)
              unfold Oper.wp
              go_simp
              refine hK _ _ ((RK_prot _).refl _) ?_
              clear hK K
              intro w38 hE38
              refine RegP.rest_end (by kernel_rfl) ?_
              have hEE : Reg.E (w23) w38 := Reg.E.trans (Reg.E.trans (Below.drew (Below.refl _ _)) hE30) (hE31.trans (hE32.trans (hE33.trans (hE34.trans (hE35.trans (hE36.trans (hE37.trans hE38)))))))
              have hbW' : Below w.heap.size w w38 := hbW.trans (hEE.to hbW.size)
              clear hE30 hE31 hE32 hE33 hE34 hE35 hE36 hE37 hE38 hEE
              go_wp2_with fail
              refine bodyPost_ret (by simp [*, results, Tryz.results12, go_sem]; try rfl) rfl ?_
              exact ⟨rfl, hbW'⟩
            · rw [hri] at RI
              replace RO := RO hri
              refine RegP.wp_region_P (R := RK w.heap.size) (hd := [0, 1, 2, 3, 4, 5, 6, 7, 10, 11, 12, 13, 14, 15]) (I := fun _ => true) (RK_prot _) (by kernel_rfl) (by kernel_rfl) ?_
              iterate 14 (first
                | (refine hd_off rfl rfl (fun K hK => ?_); (go_simp; refine hK _ ?_; clear hK K))
                | (refine hd_pure_on rfl rfl rfl (fun K hK => ?_); apply Exists.intro; refine ⟨fun w2 => ?_, ?_⟩; (go_simp; exact .mk); (go_simp; refine hK _ ?_; clear hK K))
                | (refine hd_cps_on rfl rfl rfl (fun K hK => ?_); apply Exists.intro; refine ⟨fun w2 hR => ?_, ?_⟩; (have d0 := hR.cell 0 q0; have d1 := hR.cell 1 q1; have d2 := hR.cell 2 q2; have d3 := hR.cell 3 q3; have d4 := hR.cell 4 q4; have d5 := hR.cell 5 q5; have d6 := hR.cell 6 q6; go_simp; first | (exact .value (Reg.E.refl _)) | (exact .enter (Reg.E.refl _) (RI w2))); (go_simp; refine hK _ ?_; clear hK K)))
              refine RegP.hd_nil ?_
              intro w30 hE30
              refine rest_on (f := 7) (k := 8) (by kernel_rfl) rfl rfl rfl (fun K hK => ?_)
              unfold Oper.wp
              go_simp
              refine hK _ _ (RK.alloc _ _ _) ?_
              clear hK K
              intro w31 hE31
              have blk31 : w31.heap[w30.heap.size]? = some (.cells ⟨It.cells ⟨t, r, x, i, u, s, y⟩⟩ 95 (0, 0)) := (hE31.block _ (by simp)).trans (MapKept.heap_alloc _ _).1
              have R9 := span_Room t (some ⟨w30.heap.size, 0, none⟩) 1 [⟨t, r, x, i, u, s, y⟩] w31 (by simp) (fun j v hj => ⟨_, rfl, by
                have hadd : (⟨w30.heap.size, 0, none⟩ : Addr).add j = ⟨w30.heap.size, j, none⟩ := by unfold Addr.add; split <;> simp_all
                rw [hadd]
                simp only [cellsI, List.flatMap_cons, List.flatMap_nil, List.append_nil] at hj
                simp [World.cell?, blk31, hj]⟩)
              rw [RO] at R9
              refine rest_on (f := 6) (k := 9) (by kernel_rfl) rfl rfl rfl (fun K hK => ?_)
              unfold Oper.wp
              go_simp
              refine R9.mono ?_
              rintro e w32 ⟨rfl, hb32⟩
              refine hK _ _ ((RK_prot _).ofE hb32) ?_
              clear hK K R9
              intro w33 hE33
              refine rest_on (f := 5) (k := 16) (by kernel_rfl) rfl rfl rfl (fun K hK => ?_)
              unfold Oper.wp
              go_simp
              refine (vtime_Since u t w33).mono ?_
              rintro e w34 ⟨rfl, hb34⟩
              refine hK _ _ ((RK_prot _).ofE hb34) ?_
              clear hK K
              intro w35 hE35
              generalize since u t = d at *
              refine rest_on (f := 4) (k := 17) (by kernel_rfl) rfl rfl rfl (fun K hK => ?_)
              unfold Oper.wp
              go_simp
              refine hK _ _ ((RK_prot _).refl _) ?_
              clear hK K
              intro w36 hE36
              refine rest_on (f := 3) (k := 18) (by kernel_rfl) rfl rfl rfl (fun K hK => ?_)
              unfold Oper.wp
              go_simp
              refine hK _ _ ((RK_prot _).refl _) ?_
              clear hK K
              intro w37 hE37
              refine rest_on (f := 2) (k := 19) (by kernel_rfl) rfl rfl rfl (fun K hK => ?_)
              unfold Oper.wp
              go_simp
              refine hK _ _ ((RK_prot _).refl _) ?_
              clear hK K
              intro w38 hE38
              refine rest_on (f := 1) (k := 20) (by kernel_rfl) rfl rfl rfl (fun K hK => ?_)
              unfold Oper.wp
              go_simp
              refine hK _ _ ((RK_prot _).refl _) ?_
              clear hK K
              intro w39 hE39
              refine rest_on (f := 0) (k := 21) (by kernel_rfl) rfl rfl rfl (fun K hK => ?_)
              unfold Oper.wp
              go_simp
              refine hK _ _ ((RK_prot _).refl _) ?_
              clear hK K
              intro w40 hE40
              refine RegP.rest_end (by kernel_rfl) ?_
              have hEE : Reg.E (w23) w40 := Reg.E.trans (Reg.E.trans (Below.drew (Below.refl _ _)) hE30) ((Reg.E.alloc _ _).trans (hE31.trans ((show Reg.E w31 w32 from hb32).trans (hE33.trans ((show Reg.E w33 w34 from hb34).trans (hE35.trans (hE36.trans (hE37.trans (hE38.trans (hE39.trans hE40))))))))))
              have hbW' : Below w.heap.size w w40 := hbW.trans (hEE.to hbW.size)
              clear hE30 hE31 hb32 hE33 hb34 hE35 hE36 hE37 hE38 hE39 hE40 hEE
              go_wp2_with fail
              refine bodyPost_ret (by simp [*, results, Tryz.results12, go_sem]; try rfl) rfl ?_
              exact ⟨rfl, hbW'⟩
          · have hB2 := hB hB1
            subst hB1
            subst hB2
            clear hB
            go_wp2_with fail
            refine (WL _ hb3).mono ?_
            rintro e w24 ⟨rfl, hb24⟩
            have hb4 := hb3.trans (hb24.mono hb3.size)
            clear WL hb3 hb24
            go_wp2_with fail
            have nW := (hb4.block _ hb5).trans n0
            have hbW := hb20.trans (hb4.mono hb20.size)
            have q0 : (w24).cell? ⟨w.heap.size, 0, none⟩ = some (.int .u64 t) := by simp [World.cell?, nW]
            have q1 : (w24).cell? ⟨w.heap.size, 1, none⟩ = some (.int .u32 r) := by simp [World.cell?, nW]
            have q2 : (w24).cell? ⟨w.heap.size, 2, none⟩ = some (.int .u32 x) := by simp [World.cell?, nW]
            have q3 : (w24).cell? ⟨w.heap.size, 3, none⟩ = some (.int .i64 i) := by simp [World.cell?, nW]
            have q4 : (w24).cell? ⟨w.heap.size, 4, none⟩ = some (.int .u64 u) := by simp [World.cell?, nW]
            have q5 : (w24).cell? ⟨w.heap.size, 5, none⟩ = some (.int .u32 s) := by simp [World.cell?, nW]
            have q6 : (w24).cell? ⟨w.heap.size, 6, none⟩ = some (.int .u32 y) := by simp [World.cell?, nW]
            have RI := fun w => item_Right t r x i u s y w
            have RO := fun h => room_one ⟨t, r, x, i, u, s, y⟩ h
            simp only [] at RO
            cases hri : rightI t r x i u s y
            · rw [hri] at RI
              clear RO
              refine RegP.wp_region_P (R := RK w.heap.size) (hd := [0, 1, 2, 3, 4, 5, 6, 7, 10, 11, 12, 13, 14, 15]) (I := fun _ => true) (RK_prot _) (by kernel_rfl) (by kernel_rfl) ?_
              iterate 14 (first
                | (refine hd_off rfl rfl (fun K hK => ?_); (go_simp; refine hK _ ?_; clear hK K))
                | (refine hd_pure_on rfl rfl rfl (fun K hK => ?_); apply Exists.intro; refine ⟨fun w2 => ?_, ?_⟩; (go_simp; exact .mk); (go_simp; refine hK _ ?_; clear hK K))
                | (refine hd_cps_on rfl rfl rfl (fun K hK => ?_); apply Exists.intro; refine ⟨fun w2 hR => ?_, ?_⟩; (have d0 := hR.cell 0 q0; have d1 := hR.cell 1 q1; have d2 := hR.cell 2 q2; have d3 := hR.cell 3 q3; have d4 := hR.cell 4 q4; have d5 := hR.cell 5 q5; have d6 := hR.cell 6 q6; go_simp; first | (exact .value (Reg.E.refl _)) | (exact .enter (Reg.E.refl _) (RI w2))); (go_simp; refine hK _ ?_; clear hK K)))
              refine RegP.hd_nil ?_
              intro w30 hE30
              refine rest_off (RK_prot _) (f := 7) (k := 8) (by kernel_rfl) rfl rfl rfl (fun K hK => ?_)
              go_simp
              refine hK _ _ ?_
              clear hK K
              intro w31 hE31
              refine rest_off (RK_prot _) (f := 6) (k := 9) (by kernel_rfl) rfl rfl rfl (fun K hK => ?_)
              go_simp
              refine hK _ _ ?_
              clear hK K
              intro w32 hE32
              refine rest_off (RK_prot _) (f := 5) (k := 16) (by kernel_rfl) rfl rfl rfl (fun K hK => ?_)
              go_simp
              refine hK _ _ ?_
              clear hK K
              intro w33 hE33
              refine rest_off (RK_prot _) (f := 4) (k := 17) (by kernel_rfl) rfl rfl rfl (fun K hK => ?_)
              go_simp
              refine hK _ _ ?_
              clear hK K
              intro w34 hE34
              refine rest_off (RK_prot _) (f := 3) (k := 18) (by kernel_rfl) rfl rfl rfl (fun K hK => ?_)
              go_simp
              refine hK _ _ ?_
              clear hK K
              intro w35 hE35
              refine rest_off (RK_prot _) (f := 2) (k := 19) (by kernel_rfl) rfl rfl rfl (fun K hK => ?_)
              go_simp
              refine hK _ _ ?_
              clear hK K
              intro w36 hE36
              refine rest_on (f := 1) (k := 20) (by kernel_rfl) rfl rfl rfl (fun K hK => ?_)
              unfold Oper.wp
              go_simp
              refine hK _ _ ((RK_prot _).refl _) ?_
              clear hK K
              intro w37 hE37
              refine rest_on (f := 0) (k := 21) (by kernel_rfl) rfl rfl rfl (fun K hK => ?_)
              unfold Oper.wp
              go_simp
              refine hK _ _ ((RK_prot _).refl _) ?_
              clear hK K
              intro w38 hE38
              refine RegP.rest_end (by kernel_rfl) ?_
              have hEE : Reg.E (w24) w38 := Reg.E.trans (Reg.E.trans (Below.drew (Below.refl _ _)) hE30) (hE31.trans (hE32.trans (hE33.trans (hE34.trans (hE35.trans (hE36.trans (hE37.trans hE38)))))))
              have hbW' : Below w.heap.size w w38 := hbW.trans (hEE.to hbW.size)
              clear hE30 hE31 hE32 hE33 hE34 hE35 hE36 hE37 hE38 hEE
              go_wp2_with fail
              refine bodyPost_ret (by simp [*, results, Tryz.results12, go_sem]; try rfl) rfl ?_
              exact ⟨rfl, hbW'⟩
            · rw [hri] at RI
              replace RO := RO hri
              refine RegP.wp_region_P (R := RK w.heap.size) (hd := [0, 1, 2, 3, 4, 5, 6, 7, 10, 11, 12, 13, 14, 15]) (I := fun _ => true) (RK_prot _) (by kernel_rfl) (by kernel_rfl) ?_
              iterate 14 (first
                | (refine hd_off rfl rfl (fun K hK => ?_); (go_simp; refine hK _ ?_; clear hK K))
                | (refine hd_pure_on rfl rfl rfl (fun K hK => ?_); apply Exists.intro; refine ⟨fun w2 => ?_, ?_⟩; (go_simp; exact .mk); (go_simp; refine hK _ ?_; clear hK K))
                | (refine hd_cps_on rfl rfl rfl (fun K hK => ?_); apply Exists.intro; refine ⟨fun w2 hR => ?_, ?_⟩; (have d0 := hR.cell 0 q0; have d1 := hR.cell 1 q1; have d2 := hR.cell 2 q2; have d3 := hR.cell 3 q3; have d4 := hR.cell 4 q4; have d5 := hR.cell 5 q5; have d6 := hR.cell 6 q6; go_simp; first | (exact .value (Reg.E.refl _)) | (exact .enter (Reg.E.refl _) (RI w2))); (go_simp; refine hK _ ?_; clear hK K)))
              refine RegP.hd_nil ?_
              intro w30 hE30
              refine rest_on (f := 7) (k := 8) (by kernel_rfl) rfl rfl rfl (fun K hK => ?_)
              unfold Oper.wp
              go_simp
              refine hK _ _ (RK.alloc _ _ _) ?_
              clear hK K
              intro w31 hE31
              have blk31 : w31.heap[w30.heap.size]? = some (.cells ⟨It.cells ⟨t, r, x, i, u, s, y⟩⟩ 95 (0, 0)) := (hE31.block _ (by simp)).trans (MapKept.heap_alloc _ _).1
              have R9 := span_Room t (some ⟨w30.heap.size, 0, none⟩) 1 [⟨t, r, x, i, u, s, y⟩] w31 (by simp) (fun j v hj => ⟨_, rfl, by
                have hadd : (⟨w30.heap.size, 0, none⟩ : Addr).add j = ⟨w30.heap.size, j, none⟩ := by unfold Addr.add; split <;> simp_all
                rw [hadd]
                simp only [cellsI, List.flatMap_cons, List.flatMap_nil, List.append_nil] at hj
                simp [World.cell?, blk31, hj]⟩)
              rw [RO] at R9
              refine rest_on (f := 6) (k := 9) (by kernel_rfl) rfl rfl rfl (fun K hK => ?_)
              unfold Oper.wp
              go_simp
              refine R9.mono ?_
              rintro e w32 ⟨rfl, hb32⟩
              refine hK _ _ ((RK_prot _).ofE hb32) ?_
              clear hK K R9
              intro w33 hE33
              refine rest_on (f := 5) (k := 16) (by kernel_rfl) rfl rfl rfl (fun K hK => ?_)
              unfold Oper.wp
              go_simp
              refine (vtime_Since u t w33).mono ?_
              rintro e w34 ⟨rfl, hb34⟩
              refine hK _ _ ((RK_prot _).ofE hb34) ?_
              clear hK K
              intro w35 hE35
              generalize since u t = d at *
              refine rest_on (f := 4) (k := 17) (by kernel_rfl) rfl rfl rfl (fun K hK => ?_)
              unfold Oper.wp
              go_simp
              refine hK _ _ ((RK_prot _).refl _) ?_
              clear hK K
              intro w36 hE36
              refine rest_on (f := 3) (k := 18) (by kernel_rfl) rfl rfl rfl (fun K hK => ?_)
              unfold Oper.wp
              go_simp
              refine hK _ _ ((RK_prot _).refl _) ?_
              clear hK K
              intro w37 hE37
              refine rest_on (f := 2) (k := 19) (by kernel_rfl) rfl rfl rfl (fun K hK => ?_)
              unfold Oper.wp
              go_simp
              refine hK _ _ ((RK_prot _).refl _) ?_
              clear hK K
              intro w38 hE38
              refine rest_on (f := 1) (k := 20) (by kernel_rfl) rfl rfl rfl (fun K hK => ?_)
              unfold Oper.wp
              go_simp
              refine hK _ _ ((RK_prot _).refl _) ?_
              clear hK K
              intro w39 hE39
              refine rest_on (f := 0) (k := 21) (by kernel_rfl) rfl rfl rfl (fun K hK => ?_)
              unfold Oper.wp
              go_simp
              refine hK _ _ ((RK_prot _).refl _) ?_
              clear hK K
              intro w40 hE40
              refine RegP.rest_end (by kernel_rfl) ?_
              have hEE : Reg.E (w24) w40 := Reg.E.trans (Reg.E.trans (Below.drew (Below.refl _ _)) hE30) ((Reg.E.alloc _ _).trans (hE31.trans ((show Reg.E w31 w32 from hb32).trans (hE33.trans ((show Reg.E w33 w34 from hb34).trans (hE35.trans (hE36.trans (hE37.trans (hE38.trans (hE39.trans hE40))))))))))
              have hbW' : Below w.heap.size w w40 := hbW.trans (hEE.to hbW.size)
              clear hE30 hE31 hb32 hE33 hb34 hE35 hE36 hE37 hE38 hE39 hE40 hEE
              go_wp2_with fail
              refine bodyPost_ret (by simp [*, results, Tryz.results12, go_sem]; try rfl) rfl ?_
              exact ⟨rfl, hbW'⟩
      · skip
        unfold Oper.wp
        go_simp
        refine hK _ _ (RK.alloc _ _ _) ?_
        clear hK K
        intro w5 hE5
        have new5 : New1 w5 _ (.slice (some ⟨w3.heap.size, 0, none⟩) 0 0) (It.cells ⟨t, r, x, i, u, s, y⟩) := New1.E ⟨(MapKept.heap_alloc _ _).1, fun e => (by have := ((one4).own.lt _ e).2; omega)⟩ hE5
        replace one4 := ((one4).E (Reg.E.alloc _ _)).E hE5
        replace off4 := ((off4).E (Reg.E.alloc _ _)).E hE5
        refine rest_one_cps (f := 2) (k := 2) (by kernel_rfl) rfl rfl rfl (fun K hK => ?_)
        obtain ⟨v1, w6, e6, one6, keep6, hsz⟩ := one4.appL (ty := 93) (cap := cap) (hcw w5 one4.below) hnone hlen
        rw [hn] at e6 one6
        unfold Oper.wp
        rw [Ev.evalL_eq, Ev.run_app (s := .tmp 15) (x := .tmp 16) (t := 93) (u := 93) rfl]
        erw [e6]
        simp only [Oper.upon]
        obtain ⟨off6, hrk⟩ := (off4).step keep6 hsz
        go_simp
        refine hK _ _ hrk ?_
        clear hK K hrk hsz e6
        intro w7 hE7
        replace one6 := (one6).E hE7
        replace off6 := (off6).E hE7
        replace new5 := (new5.step keep6).E hE7
        refine rest_one_cps (f := 1) (k := 5) (by kernel_rfl) rfl rfl rfl (fun K hK => ?_)
        obtain ⟨v9, w9, e9, one9, keep9, hsz⟩ := (one6).app (ty := 93) (m := 1) (c := 1) (new5).at rfl (by simp [It.cells, Value.oneCell']) (by omega)
        unfold Oper.wp
        rw [Ev.evalL_eq, Ev.run_app (s := .tmp 17) (x := .tmp 19) (t := 93) (u := 93) rfl]
        erw [e9]
        simp only [Oper.upon]
        obtain ⟨off9, hrk⟩ := (off6).step keep9 hsz
        go_simp
        refine hK _ _ hrk ?_
        clear hK K hrk hsz e9
        intro w10 hE10
        replace one9 := (one9).E hE10
        replace off9 := (off9).E hE10
        refine rest_one_cps (f := 0) (k := 6) (by kernel_rfl) rfl rfl rfl (fun K hK => ?_)
        unfold Oper.wp
        go_simp
        refine hK _ _ ((RK_prot _).refl _) ?_
        clear hK K
        intro w20 hE20
        refine RegP.rest_end (by kernel_rfl) ?_
        replace one9 := (one9).E hE20
        replace off9 := (off9).E hE20
        clear hE20
        rw [show cellsI l ++ It.cells ⟨t, r, x, i, u, s, y⟩ = cellsI (l ++ [⟨t, r, x, i, u, s, y⟩]) by simp [cellsI]] at one9
        have hb20 := one9.below
        obtain ⟨ho1, ho2⟩ := one9.own
        rcases ho2 with ⟨_, hz⟩ | ⟨g, cap9, cur, rfl, h1, h2, h3, h4, h5, h6⟩
        · omega
        have hAt9 : At w20 (some ⟨g, 0, none⟩) (cellsI (l ++ [⟨t, r, x, i, u, s, y⟩])) := fun j u hj => ⟨_, rfl, World.ownsRow.cells (v := .slice (some ⟨g, 0, none⟩) (n + 1) cap9) ⟨ho1, .inr ⟨g, cap9, cur, rfl, h1, h2, h3, h4, h5, h6⟩⟩ rfl j u hj⟩
        have hl9 : (l ++ [(⟨t, r, x, i, u, s, y⟩ : It)]).length = n + 1 := by simp [hn]
        have RM := fun w' (h : Below w20.heap.size w20 w') => span_Room t0 (some ⟨g, 0, none⟩) cap9 (l ++ [⟨t, r, x, i, u, s, y⟩]) w' (by omega) (hAt9.below h)
        have WM := fun w' (h : Below w20.heap.size w20 w') => span_Within t0 (some ⟨g, 0, none⟩) cap9 (l ++ [⟨t, r, x, i, u, s, y⟩]) w' (by omega) (hAt9.below h)
        have RL := fun w' (h : Below w20.heap.size w20 w') => span_Room t0 ao cap l w' (by omega) (hcw w' (hb20.trans (h.mono hb20.size)))
        have WL := fun w' (h : Below w20.heap.size w20 w') => span_Within t0 ao cap l w' (by omega) (hcw w' (hb20.trans (h.mono hb20.size)))
        rw [hl9] at RM WM
        rw [hn] at RL WL
        have n0 : w20.heap[w.heap.size]? = some (.cells #[.int .u64 t, .int .u32 r, .int .u32 x, .int .i64 i, .int .u64 u, .int .u32 s, .int .u32 y] 95) := off9.1
        have hA : l ≠ [] → roomI t0 (l ++ [⟨t, r, x, i, u, s, y⟩]) ≤ roomI t0 l := fun h => room_grows t0 h _
        have hB : l ≠ [] → withinI t0 (l ++ [⟨t, r, x, i, u, s, y⟩]) = true → withinI t0 l = true := fun h => within_grows t0 h _
        generalize roomI t0 (l ++ [⟨t, r, x, i, u, s, y⟩]) = A1 at *
        generalize roomI t0 l = A2 at *
        generalize withinI t0 (l ++ [⟨t, r, x, i, u, s, y⟩]) = B1 at *
        generalize withinI t0 l = B2 at *
        clear one9 off9 ho1 h1 h2 h3 h4 h5 h6 hAt9 hl9 hcw hc
        by_cases hn0 : n = 0
        · subst hn0
          clear RM WM RL WL hA hB
          go_wp2_with fail
          have nW := n0
          have hbW := hb20
          have q0 : (w20).cell? ⟨w.heap.size, 0, none⟩ = some (.int .u64 t) := by simp [World.cell?, nW]
          have q1 : (w20).cell? ⟨w.heap.size, 1, none⟩ = some (.int .u32 r) := by simp [World.cell?, nW]
          have q2 : (w20).cell? ⟨w.heap.size, 2, none⟩ = some (.int .u32 x) := by simp [World.cell?, nW]
          have q3 : (w20).cell? ⟨w.heap.size, 3, none⟩ = some (.int .i64 i) := by simp [World.cell?, nW]
          have q4 : (w20).cell? ⟨w.heap.size, 4, none⟩ = some (.int .u64 u) := by simp [World.cell?, nW]
          have q5 : (w20).cell? ⟨w.heap.size, 5, none⟩ = some (.int .u32 s) := by simp [World.cell?, nW]
          have q6 : (w20).cell? ⟨w.heap.size, 6, none⟩ = some (.int .u32 y) := by simp [World.cell?, nW]
          have RI := fun w => item_Right t r x i u s y w
          have RO := fun h => room_one ⟨t, r, x, i, u, s, y⟩ h
          simp only [] at RO
          cases hri : rightI t r x i u s y
          · rw [hri] at RI
            clear RO
            refine RegP.wp_region_P (R := RK w.heap.size) (hd := [0, 1, 2, 3, 4, 5, 6, 7, 10, 11, 12, 13, 14, 15]) (I := fun _ => true) (RK_prot _) (by kernel_rfl) (by kernel_rfl) ?_
            iterate 14 (first
              | (refine hd_off rfl rfl (fun K hK => ?_); (go_simp; refine hK _ ?_; clear hK K))
              | (refine hd_pure_on rfl rfl rfl (fun K hK => ?_); apply Exists.intro; refine ⟨fun w2 => ?_, ?_⟩; (go_simp; exact .mk); (go_simp; refine hK _ ?_; clear hK K))
              | (refine hd_cps_on rfl rfl rfl (fun K hK => ?_); apply Exists.intro; refine ⟨fun w2 hR => ?_, ?_⟩; (have d0 := hR.cell 0 q0; have d1 := hR.cell 1 q1; have d2 := hR.cell 2 q2; have d3 := hR.cell 3 q3; have d4 := hR.cell 4 q4; have d5 := hR.cell 5 q5; have d6 := hR.cell 6 q6; go_simp; first | (exact .value (Reg.E.refl _)) | (exact .enter (Reg.E.refl _) (RI w2))); (go_simp; refine hK _ ?_; clear hK K)))
            refine RegP.hd_nil ?_
            intro w30 hE30
            refine rest_off (RK_prot _) (f := 7) (k := 8) (by kernel_rfl) rfl rfl rfl (fun K hK => ?_)
            go_simp
            refine hK _ _ ?_
            clear hK K
            intro w31 hE31
            refine rest_off (RK_prot _) (f := 6) (k := 9) (by kernel_rfl) rfl rfl rfl (fun K hK => ?_)
            go_simp
            refine hK _ _ ?_
            clear hK K
            intro w32 hE32
            refine rest_off (RK_prot _) (f := 5) (k := 16) (by kernel_rfl) rfl rfl rfl (fun K hK => ?_)
            go_simp
            refine hK _ _ ?_
            clear hK K
            intro w33 hE33
            refine rest_off (RK_prot _) (f := 4) (k := 17) (by kernel_rfl) rfl rfl rfl (fun K hK => ?_)
            go_simp
            refine hK _ _ ?_
            clear hK K
            intro w34 hE34
            refine rest_off (RK_prot _) (f := 3) (k := 18) (by kernel_rfl) rfl rfl rfl (fun K hK => ?_)
            go_simp
            refine hK _ _ ?_
            clear hK K
            intro w35 hE35
            refine rest_off (RK_prot _) (f := 2) (k := 19) (by kernel_rfl) rfl rfl rfl (fun K hK => ?_)
            go_simp
            refine hK _ _ ?_
            clear hK K
            intro w36 hE36
            refine rest_on (f := 1) (k := 20) (by kernel_rfl) rfl rfl rfl (fun K hK => ?_)
            unfold Oper.wp
            go_simp
            refine hK _ _ ((RK_prot _).refl _) ?_
            clear hK K
            intro w37 hE37
            refine rest_on (f := 0) (k := 21) (by kernel_rfl) rfl rfl rfl (fun K hK => ?_)
            unfold Oper.wp
            go_simp
            refine hK _ _ ((RK_prot _).refl _) ?_
            clear hK K
            intro w38 hE38
            refine RegP.rest_end (by kernel_rfl) ?_
            have hEE : Reg.E (w20) w38 := Reg.E.trans (Reg.E.trans (Below.drew (Below.refl _ _)) hE30) (hE31.trans (hE32.trans (hE33.trans (hE34.trans (hE35.trans (hE36.trans (hE37.trans hE38)))))))
            have hbW' : Below w.heap.size w w38 := hbW.trans (hEE.to hbW.size)
            clear hE30 hE31 hE32 hE33 hE34 hE35 hE36 hE37 hE38 hEE
            go_wp2_with fail
            refine bodyPost_ret (by simp [*, results, Tryz.results12, go_sem]; try rfl) rfl ?_
            exact ⟨rfl, hbW'⟩
          · rw [hri] at RI
            replace RO := RO hri
            refine RegP.wp_region_P (R := RK w.heap.size) (hd := [0, 1, 2, 3, 4, 5, 6, 7, 10, 11, 12, 13, 14, 15]) (I := fun _ => true) (RK_prot _) (by kernel_rfl) (by kernel_rfl) ?_
            iterate 14 (first
              | (refine hd_off rfl rfl (fun K hK => ?_); (go_simp; refine hK _ ?_; clear hK K))
              | (refine hd_pure_on rfl rfl rfl (fun K hK => ?_); apply Exists.intro; refine ⟨fun w2 => ?_, ?_⟩; (go_simp; exact .mk); (go_simp; refine hK _ ?_; clear hK K))
              | (refine hd_cps_on rfl rfl rfl (fun K hK => ?_); apply Exists.intro; refine ⟨fun w2 hR => ?_, ?_⟩; (have d0 := hR.cell 0 q0; have d1 := hR.cell 1 q1; have d2 := hR.cell 2 q2; have d3 := hR.cell 3 q3; have d4 := hR.cell 4 q4; have d5 := hR.cell 5 q5; have d6 := hR.cell 6 q6; go_simp; first | (exact .value (Reg.E.refl _)) | (exact .enter (Reg.E.refl _) (RI w2))); (go_simp; refine hK _ ?_; clear hK K)))
            refine RegP.hd_nil ?_
            intro w30 hE30
            refine rest_on (f := 7) (k := 8) (by kernel_rfl) rfl rfl rfl (fun K hK => ?_)
            unfold Oper.wp
            go_simp
            refine hK _ _ (RK.alloc _ _ _) ?_
            clear hK K
            intro w31 hE31
            have blk31 : w31.heap[w30.heap.size]? = some (.cells ⟨It.cells ⟨t, r, x, i, u, s, y⟩⟩ 95 (0, 0)) := (hE31.block _ (by simp)).trans (MapKept.heap_alloc _ _).1
            have R9 := span_Room t (some ⟨w30.heap.size, 0, none⟩) 1 [⟨t, r, x, i, u, s, y⟩] w31 (by simp) (fun j v hj => ⟨_, rfl, by
              have hadd : (⟨w30.heap.size, 0, none⟩ : Addr).add j = ⟨w30.heap.size, j, none⟩ := by unfold Addr.add; split <;> simp_all
              rw [hadd]
              simp only [cellsI, List.flatMap_cons, List.flatMap_nil, List.append_nil] at hj
              simp [World.cell?, blk31, hj]⟩)
            rw [RO] at R9
            refine rest_on (f := 6) (k := 9) (by kernel_rfl) rfl rfl rfl (fun K hK => ?_)
            unfold Oper.wp
            go_simp
            refine R9.mono ?_
            rintro e w32 ⟨rfl, hb32⟩
            refine hK _ _ ((RK_prot _).ofE hb32) ?_
            clear hK K R9
            intro w33 hE33
            refine rest_on (f := 5) (k := 16) (by kernel_rfl) rfl rfl rfl (fun K hK => ?_)
            unfold Oper.wp
            go_simp
            refine (vtime_Since u t w33).mono ?_
            rintro e w34 ⟨rfl, hb34⟩
            refine hK _ _ ((RK_prot _).ofE hb34) ?_
            clear hK K
            intro w35 hE35
            generalize since u t = d at *
            refine rest_on (f := 4) (k := 17) (by kernel_rfl) rfl rfl rfl (fun K hK => ?_)
            unfold Oper.wp
            go_simp
            refine hK _ _ ((RK_prot _).refl _) ?_
            clear hK K
            intro w36 hE36
            refine rest_on (f := 3) (k := 18) (by kernel_rfl) rfl rfl rfl (fun K hK => ?_)
            unfold Oper.wp
            go_simp
            refine hK _ _ ((RK_prot _).refl _) ?_
            clear hK K
            intro w37 hE37
            refine rest_on (f := 2) (k := 19) (by kernel_rfl) rfl rfl rfl (fun K hK => ?_)
            unfold Oper.wp
            go_simp
            refine hK _ _ ((RK_prot _).refl _) ?_
            clear hK K
            intro w38 hE38
            refine rest_on (f := 1) (k := 20) (by kernel_rfl) rfl rfl rfl (fun K hK => ?_)
            unfold Oper.wp
            go_simp
            refine hK _ _ ((RK_prot _).refl _) ?_
            clear hK K
            intro w39 hE39
            refine rest_on (f := 0) (k := 21) (by kernel_rfl) rfl rfl rfl (fun K hK => ?_)
            unfold Oper.wp
            go_simp
            refine hK _ _ ((RK_prot _).refl _) ?_
            clear hK K
            intro w40 hE40
            refine RegP.rest_end (by kernel_rfl) ?_
            have hEE : Reg.E (w20) w40 := Reg.E.trans (Reg.E.trans (Below.drew (Below.refl _ _)) hE30) ((Reg.E.alloc _ _).trans (hE31.trans ((show Reg.E w31 w32 from hb32).trans (hE33.trans ((show Reg.E w33 w34 from hb34).trans (hE35.trans (hE36.trans (hE37.trans (hE38.trans (hE39.trans hE40))))))))))
            have hbW' : Below w.heap.size w w40 := hbW.trans (hEE.to hbW.size)
            clear hE30 hE31 hb32 hE33 hb34 hE35 hE36 hE37 hE38 hE39 hE40 hEE
            go_wp2_with fail
            refine bodyPost_ret (by simp [*, results, Tryz.results12, go_sem]; try rfl) rfl ?_
            exact ⟨rfl, hbW'⟩
        · have hne : l ≠ [] := by
            intro h
            subst h
            simp at hn
            omega
          replace hA := hA hne
          replace hB := hB hne
          have hgt : ¬ A2 < A1 := by omega
          have hnpos : (0 : Int) < n := by omega
          have hb5 : w.heap.size < w20.heap.size := (Array.getElem?_eq_some_iff.1 n0).1
          clear hA hne
          go_wp2_with fail
          refine (RM _ (Below.refl _ _)).mono ?_
          rintro e w21 ⟨rfl, hb21⟩
          go_wp2_with fail
          refine (RL _ hb21).mono ?_
          rintro e w22 ⟨rfl, hb22⟩
          have hb2 := hb21.trans (hb22.mono hb21.size)
          clear RM RL hb21 hb22
          go_wp2_with fail
          refine (WM _ hb2).mono ?_
          rintro e w23 ⟨rfl, hb23⟩
          have hb3 := hb2.trans (hb23.mono hb2.size)
          clear WM hb2 hb23
          cases hB1 : B1
          · subst hB1
            clear hB WL
            go_wp2_with fail
            have nW := (hb3.block _ hb5).trans n0
            have hbW := hb20.trans (hb3.mono hb20.size)
            have q0 : (w23).cell? ⟨w.heap.size, 0, none⟩ = some (.int .u64 t) := by simp [World.cell?, nW]
            have q1 : (w23).cell? ⟨w.heap.size, 1, none⟩ = some (.int .u32 r) := by simp [World.cell?, nW]
            have q2 : (w23).cell? ⟨w.heap.size, 2, none⟩ = some (.int .u32 x) := by simp [World.cell?, nW]
            have q3 : (w23).cell? ⟨w.heap.size, 3, none⟩ = some (.int .i64 i) := by simp [World.cell?, nW]
            have q4 : (w23).cell? ⟨w.heap.size, 4, none⟩ = some (.int .u64 u) := by simp [World.cell?, nW]
            have q5 : (w23).cell? ⟨w.heap.size, 5, none⟩ = some (.int .u32 s) := by simp [World.cell?, nW]
            have q6 : (w23).cell? ⟨w.heap.size, 6, none⟩ = some (.int .u32 y) := by simp [World.cell?, nW]
            have RI := fun w => item_Right t r x i u s y w
            have RO := fun h => room_one ⟨t, r, x, i, u, s, y⟩ h
            simp only [] at RO
            cases hri : rightI t r x i u s y
            · rw [hri] at RI
              clear RO
              refine RegP.wp_region_P (R := RK w.heap.size) (hd := [0, 1, 2, 3, 4, 5, 6, 7, 10, 11, 12, 13, 14, 15]) (I := fun _ => true) (RK_prot _) (by kernel_rfl) (by kernel_rfl) ?_
              iterate 14 (first
                | (refine hd_off rfl rfl (fun K hK => ?_); (go_simp; refine hK _ ?_; clear hK K))
                | (refine hd_pure_on rfl rfl rfl (fun K hK => ?_); apply Exists.intro; refine ⟨fun w2 => ?_, ?_⟩; (go_simp; exact .mk); (go_simp; refine hK _ ?_; clear hK K))
                | (refine hd_cps_on rfl rfl rfl (fun K hK => ?_); apply Exists.intro; refine ⟨fun w2 hR => ?_, ?_⟩; (have d0 := hR.cell 0 q0; have d1 := hR.cell 1 q1; have d2 := hR.cell 2 q2; have d3 := hR.cell 3 q3; have d4 := hR.cell 4 q4; have d5 := hR.cell 5 q5; have d6 := hR.cell 6 q6; go_simp; first | (exact .value (Reg.E.refl _)) | (exact .enter (Reg.E.refl _) (RI w2))); (go_simp; refine hK _ ?_; clear hK K)))
              refine RegP.hd_nil ?_
              intro w30 hE30
              refine rest_off (RK_prot _) (f := 7) (k := 8) (by kernel_rfl) rfl rfl rfl (fun K hK => ?_)
              go_simp
              refine hK _ _ ?_
              clear hK K
              intro w31 hE31
              refine rest_off (RK_prot _) (f := 6) (k := 9) (by kernel_rfl) rfl rfl rfl (fun K hK => ?_)
              go_simp
              refine hK _ _ ?_
              clear hK K
              intro w32 hE32
              refine rest_off (RK_prot _) (f := 5) (k := 16) (by kernel_rfl) rfl rfl rfl (fun K hK => ?_)
              go_simp
              refine hK _ _ ?_
              clear hK K
              intro w33 hE33
              refine rest_off (RK_prot _) (f := 4) (k := 17) (by kernel_rfl) rfl rfl rfl (fun K hK => ?_)
              go_simp
              refine hK _ _ ?_
              clear hK K
              intro w34 hE34
              refine rest_off (RK_prot _) (f := 3) (k := 18) (by kernel_rfl) rfl rfl rfl (fun K hK => ?_)
              go_simp
              refine hK _ _ ?_
              clear hK K
              intro w35 hE35
              refine rest_off (RK_prot _) (f := 2) (k := 19) (by kernel_rfl) rfl rfl rfl (fun K hK => ?_)
              go_simp
              refine hK _ _ ?_
              clear hK K
              intro w36 hE36
              refine rest_on (f := 1) (k := 20) (by kernel_rfl) rfl rfl rfl (fun K hK => ?_)
              unfold Oper.wp
              go_simp
              refine hK _ _ ((RK_prot _).refl _) ?_
              clear hK K
              intro w37 hE37
              refine rest_on (f := 0) (k := 21) (by kernel_rfl) rfl rfl rfl (fun K hK => ?_)
              unfold Oper.wp
              go_simp
              refine hK _ _ ((RK_prot _).refl _) ?_
              clear hK K
              intro w38 hE38
              refine RegP.rest_end (by kernel_rfl) ?_
              have hEE : Reg.E (w23) w38 := Reg.E.trans (Reg.E.trans (Below.drew (Below.refl _ _)) hE30) (hE31.trans (hE32.trans (hE33.trans (hE34.trans (hE35.trans (hE36.trans (hE37.trans hE38)))))))
              have hbW' : Below w.heap.size w w38 := hbW.trans (hEE.to hbW.size)
              clear hE30 hE31 hE32 hE33 hE34 hE35 hE36 hE37 hE38 hEE
              go_wp2_with fail
              refine bodyPost_ret (by simp [*, results, Tryz.results12, go_sem]; try rfl) rfl ?_
              exact ⟨rfl, hbW'⟩
            · rw [hri] at RI
              replace RO := RO hri
              refine RegP.wp_region_P (R := RK w.heap.size) (hd := [0, 1, 2, 3, 4, 5, 6, 7, 10, 11, 12, 13, 14, 15]) (I := fun _ => true) (RK_prot _) (by kernel_rfl) (by kernel_rfl) ?_
              iterate 14 (first
                | (refine hd_off rfl rfl (fun K hK => ?_); (go_simp; refine hK _ ?_; clear hK K))
                | (refine hd_pure_on rfl rfl rfl (fun K hK => ?_); apply Exists.intro; refine ⟨fun w2 => ?_, ?_⟩; (go_simp; exact .mk); (go_simp; refine hK _ ?_; clear hK K))
                | (refine hd_cps_on rfl rfl rfl (fun K hK => ?_); apply Exists.intro; refine ⟨fun w2 hR => ?_, ?_⟩; (have d0 := hR.cell 0 q0; have d1 := hR.cell 1 q1; have d2 := hR.cell 2 q2; have d3 := hR.cell 3 q3; have d4 := hR.cell 4 q4; have d5 := hR.cell 5 q5; have d6 := hR.cell 6 q6; go_simp; first | (exact .value (Reg.E.refl _)) | (exact .enter (Reg.E.refl _) (RI w2))); (go_simp; refine hK _ ?_; clear hK K)))
              refine RegP.hd_nil ?_
              intro w30 hE30
              refine rest_on (f := 7) (k := 8) (by kernel_rfl) rfl rfl rfl (fun K hK => ?_)
              unfold Oper.wp
              go_simp
              refine hK _ _ (RK.alloc _ _ _) ?_
              clear hK K
              intro w31 hE31
              have blk31 : w31.heap[w30.heap.size]? = some (.cells ⟨It.cells ⟨t, r, x, i, u, s, y⟩⟩ 95 (0, 0)) := (hE31.block _ (by simp)).trans (MapKept.heap_alloc _ _).1
              have R9 := span_Room t (some ⟨w30.heap.size, 0, none⟩) 1 [⟨t, r, x, i, u, s, y⟩] w31 (by simp) (fun j v hj => ⟨_, rfl, by
                have hadd : (⟨w30.heap.size, 0, none⟩ : Addr).add j = ⟨w30.heap.size, j, none⟩ := by unfold Addr.add; split <;> simp_all
                rw [hadd]
                simp only [cellsI, List.flatMap_cons, List.flatMap_nil, List.append_nil] at hj
                simp [World.cell?, blk31, hj]⟩)
              rw [RO] at R9
              refine rest_on (f := 6) (k := 9) (by kernel_rfl) rfl rfl rfl (fun K hK => ?_)
              unfold Oper.wp
              go_simp
              refine R9.mono ?_
              rintro e w32 ⟨rfl, hb32⟩
              refine hK _ _ ((RK_prot _).ofE hb32) ?_
              clear hK K R9
              intro w33 hE33
              refine rest_on (f := 5) (k := 16) (by kernel_rfl) rfl rfl rfl (fun K hK => ?_)
              unfold Oper.wp
              go_simp
              refine (vtime_Since u t w33).mono ?_
              rintro e w34 ⟨rfl, hb34⟩
              refine hK _ _ ((RK_prot _).ofE hb34) ?_
              clear hK K
              intro w35 hE35
              generalize since u t = d at *
              refine rest_on (f := 4) (k := 17) (by kernel_rfl) rfl rfl rfl (fun K hK => ?_)
              unfold Oper.wp
              go_simp
              refine hK _ _ ((RK_prot _).refl _) ?_
              clear hK K
              intro w36 hE36
              refine rest_on (f := 3) (k := 18) (by kernel_rfl) rfl rfl rfl (fun K hK => ?_)
              unfold Oper.wp
              go_simp
              refine hK _ _ ((RK_prot _).refl _) ?_
              clear hK K
              intro w37 hE37
              refine rest_on (f := 2) (k := 19) (by kernel_rfl) rfl rfl rfl (fun K hK => ?_)
              unfold Oper.wp
              go_simp
              refine hK _ _ ((RK_prot _).refl _) ?_
              clear hK K
              intro w38 hE38
              refine rest_on (f := 1) (k := 20) (by kernel_rfl) rfl rfl rfl (fun K hK => ?_)
              unfold Oper.wp
              go_simp
              refine hK _ _ ((RK_prot _).refl _) ?_
              clear hK K
              intro w39 hE39
              refine rest_on (f := 0) (k := 21) (by kernel_rfl) rfl rfl rfl (fun K hK => ?_)
              unfold Oper.wp
              go_simp
              refine hK _ _ ((RK_prot _).refl _) ?_
              clear hK K
              intro w40 hE40
              refine RegP.rest_end (by kernel_rfl) ?_
              have hEE : Reg.E (w23) w40 := Reg.E.trans (Reg.E.trans (Below.drew (Below.refl _ _)) hE30) ((Reg.E.alloc _ _).trans (hE31.trans ((show Reg.E w31 w32 from hb32).trans (hE33.trans ((show Reg.E w33 w34 from hb34).trans (hE35.trans (hE36.trans (hE37.trans (hE38.trans (hE39.trans hE40))))))))))
              have hbW' : Below w.heap.size w w40 := hbW.trans (hEE.to hbW.size)
              clear hE30 hE31 hb32 hE33 hb34 hE35 hE36 hE37 hE38 hE39 hE40 hEE
              go_wp2_with fail
              refine bodyPost_ret (by simp [*, results, Tryz.results12, go_sem]; try rfl) rfl ?_
              exact ⟨rfl, hbW'⟩
          · have hB2 := hB hB1
            subst hB1
            subst hB2
            clear hB
            go_wp2_with fail
            refine (WL _ hb3).mono ?_
            rintro e w24 ⟨rfl, hb24⟩
            have hb4 := hb3.trans (hb24.mono hb3.size)
            clear WL hb3 hb24
            go_wp2_with fail
            have nW := (hb4.block _ hb5).trans n0
            have hbW := hb20.trans (hb4.mono hb20.size)
            have q0 : (w24).cell? ⟨w.heap.size, 0, none⟩ = some (.int .u64 t) := by simp [World.cell?, nW]
            have q1 : (w24).cell? ⟨w.heap.size, 1, none⟩ = some (.int .u32 r) := by simp [World.cell?, nW]
            have q2 : (w24).cell? ⟨w.heap.size, 2, none⟩ = some (.int .u32 x) := by simp [World.cell?, nW]
            have q3 : (w24).cell? ⟨w.heap.size, 3, none⟩ = some (.int .i64 i) := by simp [World.cell?, nW]
            have q4 : (w24).cell? ⟨w.heap.size, 4, none⟩ = some (.int .u64 u) := by simp [World.cell?, nW]
            have q5 : (w24).cell? ⟨w.heap.size, 5, none⟩ = some (.int .u32 s) := by simp [World.cell?, nW]
            have q6 : (w24).cell? ⟨w.heap.size, 6, none⟩ = some (.int .u32 y) := by simp [World.cell?, nW]
            have RI := fun w => item_Right t r x i u s y w
            have RO := fun h => room_one ⟨t, r, x, i, u, s, y⟩ h
            simp only [] at RO
            cases hri : rightI t r x i u s y
            · rw [hri] at RI
              clear RO
              refine RegP.wp_region_P (R := RK w.heap.size) (hd := [0, 1, 2, 3, 4, 5, 6, 7, 10, 11, 12, 13, 14, 15]) (I := fun _ => true) (RK_prot _) (by kernel_rfl) (by kernel_rfl) ?_
              iterate 14 (first
                | (refine hd_off rfl rfl (fun K hK => ?_); (go_simp; refine hK _ ?_; clear hK K))
                | (refine hd_pure_on rfl rfl rfl (fun K hK => ?_); apply Exists.intro; refine ⟨fun w2 => ?_, ?_⟩; (go_simp; exact .mk); (go_simp; refine hK _ ?_; clear hK K))
                | (refine hd_cps_on rfl rfl rfl (fun K hK => ?_); apply Exists.intro; refine ⟨fun w2 hR => ?_, ?_⟩; (have d0 := hR.cell 0 q0; have d1 := hR.cell 1 q1; have d2 := hR.cell 2 q2; have d3 := hR.cell 3 q3; have d4 := hR.cell 4 q4; have d5 := hR.cell 5 q5; have d6 := hR.cell 6 q6; go_simp; first | (exact .value (Reg.E.refl _)) | (exact .enter (Reg.E.refl _) (RI w2))); (go_simp; refine hK _ ?_; clear hK K)))
              refine RegP.hd_nil ?_
              intro w30 hE30
              refine rest_off (RK_prot _) (f := 7) (k := 8) (by kernel_rfl) rfl rfl rfl (fun K hK => ?_)
              go_simp
              refine hK _ _ ?_
              clear hK K
              intro w31 hE31
              refine rest_off (RK_prot _) (f := 6) (k := 9) (by kernel_rfl) rfl rfl rfl (fun K hK => ?_)
              go_simp
              refine hK _ _ ?_
              clear hK K
              intro w32 hE32
              refine rest_off (RK_prot _) (f := 5) (k := 16) (by kernel_rfl) rfl rfl rfl (fun K hK => ?_)
              go_simp
              refine hK _ _ ?_
              clear hK K
              intro w33 hE33
              refine rest_off (RK_prot _) (f := 4) (k := 17) (by kernel_rfl) rfl rfl rfl (fun K hK => ?_)
              go_simp
              refine hK _ _ ?_
              clear hK K
              intro w34 hE34
              refine rest_off (RK_prot _) (f := 3) (k := 18) (by kernel_rfl) rfl rfl rfl (fun K hK => ?_)
              go_simp
              refine hK _ _ ?_
              clear hK K
              intro w35 hE35
              refine rest_off (RK_prot _) (f := 2) (k := 19) (by kernel_rfl) rfl rfl rfl (fun K hK => ?_)
              go_simp
              refine hK _ _ ?_
              clear hK K
              intro w36 hE36
              refine rest_on (f := 1) (k := 20) (by kernel_rfl) rfl rfl rfl (fun K hK => ?_)
              unfold Oper.wp
              go_simp
              refine hK _ _ ((RK_prot _).refl _) ?_
              clear hK K
              intro w37 hE37
              refine rest_on (f := 0) (k := 21) (by kernel_rfl) rfl rfl rfl (fun K hK => ?_)
              unfold Oper.wp
              go_simp
              refine hK _ _ ((RK_prot _).refl _) ?_
              clear hK K
              intro w38 hE38
              refine RegP.rest_end (by kernel_rfl) ?_
              have hEE : Reg.E (w24) w38 := Reg.E.trans (Reg.E.trans (Below.drew (Below.refl _ _)) hE30) (hE31.trans (hE32.trans (hE33.trans (hE34.trans (hE35.trans (hE36.trans (hE37.trans hE38)))))))
              have hbW' : Below w.heap.size w w38 := hbW.trans (hEE.to hbW.size)
              clear hE30 hE31 hE32 hE33 hE34 hE35 hE36 hE37 hE38 hEE
              go_wp2_with fail
              refine bodyPost_ret (by simp [*, results, Tryz.results12, go_sem]; try rfl) rfl ?_
              exact ⟨rfl, hbW'⟩
            · rw [hri] at RI
              replace RO := RO hri
              refine RegP.wp_region_P (R := RK w.heap.size) (hd := [0, 1, 2, 3, 4, 5, 6, 7, 10, 11, 12, 13, 14, 15]) (I := fun _ => true) (RK_prot _) (by kernel_rfl) (by kernel_rfl) ?_
              iterate 14 (first
                | (refine hd_off rfl rfl (fun K hK => ?_); (go_simp; refine hK _ ?_; clear hK K))
                | (refine hd_pure_on rfl rfl rfl (fun K hK => ?_); apply Exists.intro; refine ⟨fun w2 => ?_, ?_⟩; (go_simp; exact .mk); (go_simp; refine hK _ ?_; clear hK K))
                | (refine hd_cps_on rfl rfl rfl (fun K hK => ?_); apply Exists.intro; refine ⟨fun w2 hR => ?_, ?_⟩; (have d0 := hR.cell 0 q0; have d1 := hR.cell 1 q1; have d2 := hR.cell 2 q2; have d3 := hR.cell 3 q3; have d4 := hR.cell 4 q4; have d5 := hR.cell 5 q5; have d6 := hR.cell 6 q6; go_simp; first | (exact .value (Reg.E.refl _)) | (exact .enter (Reg.E.refl _) (RI w2))); (go_simp; refine hK _ ?_; clear hK K)))
              refine RegP.hd_nil ?_
              intro w30 hE30
              refine rest_on (f := 7) (k := 8) (by kernel_rfl) rfl rfl rfl (fun K hK => ?_)
              unfold Oper.wp
              go_simp
              refine hK _ _ (RK.alloc _ _ _) ?_
              clear hK K
              intro w31 hE31
              have blk31 : w31.heap[w30.heap.size]? = some (.cells ⟨It.cells ⟨t, r, x, i, u, s, y⟩⟩ 95 (0, 0)) := (hE31.block _ (by simp)).trans (MapKept.heap_alloc _ _).1
              have R9 := span_Room t (some ⟨w30.heap.size, 0, none⟩) 1 [⟨t, r, x, i, u, s, y⟩] w31 (by simp) (fun j v hj => ⟨_, rfl, by
                have hadd : (⟨w30.heap.size, 0, none⟩ : Addr).add j = ⟨w30.heap.size, j, none⟩ := by unfold Addr.add; split <;> simp_all
                rw [hadd]
                simp only [cellsI, List.flatMap_cons, List.flatMap_nil, List.append_nil] at hj
                simp [World.cell?, blk31, hj]⟩)
              rw [RO] at R9
              refine rest_on (f := 6) (k := 9) (by kernel_rfl) rfl rfl rfl (fun K hK => ?_)
              unfold Oper.wp
              go_simp
              refine R9.mono ?_
              rintro e w32 ⟨rfl, hb32⟩
              refine hK _ _ ((RK_prot _).ofE hb32) ?_
              clear hK K R9
              intro w33 hE33
              refine rest_on (f := 5) (k := 16) (by kernel_rfl) rfl rfl rfl (fun K hK => ?_)
              unfold Oper.wp
              go_simp
              refine (vtime_Since u t w33).mono ?_
              rintro e w34 ⟨rfl, hb34⟩
              refine hK _ _ ((RK_prot _).ofE hb34) ?_
              clear hK K
              intro w35 hE35
              generalize since u t = d at *
              refine rest_on (f := 4) (k := 17) (by kernel_rfl) rfl rfl rfl (fun K hK => ?_)
              unfold Oper.wp
              go_simp
              refine hK _ _ ((RK_prot _).refl _) ?_
              clear hK K
              intro w36 hE36
              refine rest_on (f := 3) (k := 18) (by kernel_rfl) rfl rfl rfl (fun K hK => ?_)
              unfold Oper.wp
              go_simp
              refine hK _ _ ((RK_prot _).refl _) ?_
              clear hK K
              intro w37 hE37
              refine rest_on (f := 2) (k := 19) (by kernel_rfl) rfl rfl rfl (fun K hK => ?_)
              unfold Oper.wp
              go_simp
              refine hK _ _ ((RK_prot _).refl _) ?_
              clear hK K
              intro w38 hE38
              refine rest_on (f := 1) (k := 20) (by kernel_rfl) rfl rfl rfl (fun K hK => ?_)
              unfold Oper.wp
              go_simp
              refine hK _ _ ((RK_prot _).refl _) ?_
              clear hK K
              intro w39 hE39
              refine rest_on (f := 0) (k := 21) (by kernel_rfl) rfl rfl rfl (fun K hK => ?_)
              unfold Oper.wp
              go_simp
              refine hK _ _ ((RK_prot _).refl _) ?_
              clear hK K
              intro w40 hE40
              refine RegP.rest_end (by kernel_rfl) ?_
              have hEE : Reg.E (w24) w40 := Reg.E.trans (Reg.E.trans (Below.drew (Below.refl _ _)) hE30) ((Reg.E.alloc _ _).trans (hE31.trans ((show Reg.E w31 w32 from hb32).trans (hE33.trans ((show Reg.E w33 w34 from hb34).trans (hE35.trans (hE36.trans (hE37.trans (hE38.trans (hE39.trans hE40))))))))))
              have hbW' : Below w.heap.size w w40 := hbW.trans (hEE.to hbW.size)
              clear hE30 hE31 hb32 hE33 hb34 hE35 hE36 hE37 hE38 hE39 hE40 hEE
              go_wp2_with fail
              refine bodyPost_ret (by simp [*, results, Tryz.results12, go_sem]; try rfl) rfl ?_
              exact ⟨rfl, hbW'⟩
    · unfold Oper.wp
      go_simp
      refine hK _ _ (RK.alloc _ _ _) ?_
      clear hK K
      intro w4 hE4
      have hb4 : Below w.heap.size w w4 := hb3.trans ((Reg.E.trans (Reg.E.alloc _ _) hE4).to hb3.size)
      have blk4 : w4.heap[w3.heap.size]? = some (.cells ⟨It.cells ⟨t, r, x, i, u, s, y⟩⟩ 95 (0, 0)) := (hE4.block _ (by simp)).trans (MapKept.heap_alloc _ _).1
      have hs4 : w3.heap.size < w4.heap.size := (Array.getElem?_eq_some_iff.1 blk4).1
      have hk4 : w4.heap[w.heap.size]? = some (.cells #[.int .u64 t, .int .u32 r, .int .u32 x, .int .i64 i, .int .u64 u, .int .u32 s, .int .u32 y] 95) := ((Reg.E.trans (Reg.E.alloc _ _) hE4 : Reg.E w3 w4).block _ hs3).trans hk3
      refine rest_one_cps (f := 3) (k := 0) (by kernel_rfl) rfl rfl rfl (fun K hK => ?_)
      unfold Oper.wp
      go_simp
      refine hK _ _ (RK.alloc _ _ _) ?_
      clear hK K
      intro w5 hE5
      have one4 := (One.start hb4).E hE5
      have off4 : Off1 (.cells #[.int .u64 t, .int .u32 r, .int .u32 x, .int .i64 i, .int .u64 u, .int .u32 s, .int .u32 y] 95) w5 w.heap.size (.slice (some ⟨w4.heap.size, 0, none⟩) 0 0) := by
        refine Off1.E ⟨(Reg.E.alloc w4 _).block _ (by omega) |>.trans hk4, ?_⟩ hE5
        simp only [Value.ownBlock, ne_eq, Option.some.injEq]
        omega
      have new5 : New1 w5 w3.heap.size (.slice (some ⟨w4.heap.size, 0, none⟩) 0 0) (It.cells ⟨t, r, x, i, u, s, y⟩) := by
        refine New1.E ⟨(Reg.E.alloc w4 _).block _ hs4 |>.trans blk4, ?_⟩ hE5
        simp only [Value.ownBlock, ne_eq, Option.some.injEq]
        omega
      refine rest_one_cps (f := 2) (k := 2) (by kernel_rfl) rfl rfl rfl (fun K hK => ?_)
      obtain ⟨v1, w6, e6, one6, keep6, hsz⟩ := one4.appL (ty := 93) (cap := cap) (hcw w5 one4.below) hnone hlen
      rw [hn] at e6 one6
      unfold Oper.wp
      rw [Ev.evalL_eq, Ev.run_app (s := .tmp 15) (x := .tmp 16) (t := 93) (u := 93) rfl]
      erw [e6]
      simp only [Oper.upon]
      obtain ⟨off6, hrk⟩ := (off4).step keep6 hsz
      go_simp
      refine hK _ _ hrk ?_
      clear hK K hrk hsz e6
      intro w7 hE7
      replace one6 := (one6).E hE7
      replace off6 := (off6).E hE7
      replace new5 := (new5.step keep6).E hE7
      refine rest_one_cps (f := 1) (k := 5) (by kernel_rfl) rfl rfl rfl (fun K hK => ?_)
      obtain ⟨v9, w9, e9, one9, keep9, hsz⟩ := (one6).app (ty := 93) (m := 1) (c := 1) (new5).at rfl (by simp [It.cells, Value.oneCell']) (by omega)
      unfold Oper.wp
      rw [Ev.evalL_eq, Ev.run_app (s := .tmp 17) (x := .tmp 19) (t := 93) (u := 93) rfl]
      erw [e9]
      simp only [Oper.upon]
      obtain ⟨off9, hrk⟩ := (off6).step keep9 hsz
      go_simp
      refine hK _ _ hrk ?_
      clear hK K hrk hsz e9
      intro w10 hE10
      replace one9 := (one9).E hE10
      replace off9 := (off9).E hE10
      refine rest_one_cps (f := 0) (k := 6) (by kernel_rfl) rfl rfl rfl (fun K hK => ?_)
      unfold Oper.wp
      go_simp
      refine hK _ _ ((RK_prot _).refl _) ?_
      clear hK K
      intro w20 hE20
      refine RegP.rest_end (by kernel_rfl) ?_
      replace one9 := (one9).E hE20
      replace off9 := (off9).E hE20
      clear hE20
      rw [show cellsI l ++ It.cells ⟨t, r, x, i, u, s, y⟩ = cellsI (l ++ [⟨t, r, x, i, u, s, y⟩]) by simp [cellsI]] at one9
      have hb20 := one9.below
      obtain ⟨ho1, ho2⟩ := one9.own
      rcases ho2 with ⟨_, hz⟩ | ⟨g, cap9, cur, rfl, h1, h2, h3, h4, h5, h6⟩
      · omega
      have hAt9 : At w20 (some ⟨g, 0, none⟩) (cellsI (l ++ [⟨t, r, x, i, u, s, y⟩])) := fun j u hj => ⟨_, rfl, World.ownsRow.cells (v := .slice (some ⟨g, 0, none⟩) (n + 1) cap9) ⟨ho1, .inr ⟨g, cap9, cur, rfl, h1, h2, h3, h4, h5, h6⟩⟩ rfl j u hj⟩
      have hl9 : (l ++ [(⟨t, r, x, i, u, s, y⟩ : It)]).length = n + 1 := by simp [hn]
      have RM := fun w' (h : Below w20.heap.size w20 w') => span_Room t0 (some ⟨g, 0, none⟩) cap9 (l ++ [⟨t, r, x, i, u, s, y⟩]) w' (by omega) (hAt9.below h)
      have WM := fun w' (h : Below w20.heap.size w20 w') => span_Within t0 (some ⟨g, 0, none⟩) cap9 (l ++ [⟨t, r, x, i, u, s, y⟩]) w' (by omega) (hAt9.below h)
      have RL := fun w' (h : Below w20.heap.size w20 w') => span_Room t0 ao cap l w' (by omega) (hcw w' (hb20.trans (h.mono hb20.size)))
      have WL := fun w' (h : Below w20.heap.size w20 w') => span_Within t0 ao cap l w' (by omega) (hcw w' (hb20.trans (h.mono hb20.size)))
      rw [hl9] at RM WM
      rw [hn] at RL WL
      have n0 : w20.heap[w.heap.size]? = some (.cells #[.int .u64 t, .int .u32 r, .int .u32 x, .int .i64 i, .int .u64 u, .int .u32 s, .int .u32 y] 95) := off9.1
      have hA : l ≠ [] → roomI t0 (l ++ [⟨t, r, x, i, u, s, y⟩]) ≤ roomI t0 l := fun h => room_grows t0 h _
      have hB : l ≠ [] → withinI t0 (l ++ [⟨t, r, x, i, u, s, y⟩]) = true → withinI t0 l = true := fun h => within_grows t0 h _
      generalize roomI t0 (l ++ [⟨t, r, x, i, u, s, y⟩]) = A1 at *
      generalize roomI t0 l = A2 at *
      generalize withinI t0 (l ++ [⟨t, r, x, i, u, s, y⟩]) = B1 at *
      generalize withinI t0 l = B2 at *
      clear one9 off9 ho1 h1 h2 h3 h4 h5 h6 hAt9 hl9 hcw hc
      by_cases hn0 : n = 0
      · subst hn0
        clear RM WM RL WL hA hB
        go_wp2_with fail
        have nW := n0
        have hbW := hb20
        have q0 : (w20).cell? ⟨w.heap.size, 0, none⟩ = some (.int .u64 t) := by simp [World.cell?, nW]
        have q1 : (w20).cell? ⟨w.heap.size, 1, none⟩ = some (.int .u32 r) := by simp [World.cell?, nW]
        have q2 : (w20).cell? ⟨w.heap.size, 2, none⟩ = some (.int .u32 x) := by simp [World.cell?, nW]
        have q3 : (w20).cell? ⟨w.heap.size, 3, none⟩ = some (.int .i64 i) := by simp [World.cell?, nW]
        have q4 : (w20).cell? ⟨w.heap.size, 4, none⟩ = some (.int .u64 u) := by simp [World.cell?, nW]
        have q5 : (w20).cell? ⟨w.heap.size, 5, none⟩ = some (.int .u32 s) := by simp [World.cell?, nW]
        have q6 : (w20).cell? ⟨w.heap.size, 6, none⟩ = some (.int .u32 y) := by simp [World.cell?, nW]
        have RI := fun w => item_Right t r x i u s y w
        have RO := fun h => room_one ⟨t, r, x, i, u, s, y⟩ h
        simp only [] at RO
        cases hri : rightI t r x i u s y
        · rw [hri] at RI
          clear RO
          refine RegP.wp_region_P (R := RK w.heap.size) (hd := [0, 1, 2, 3, 4, 5, 6, 7, 10, 11, 12, 13, 14, 15]) (I := fun _ => true) (RK_prot _) (by kernel_rfl) (by kernel_rfl) ?_
          iterate 14 (first
            | (refine hd_off rfl rfl (fun K hK => ?_); (go_simp; refine hK _ ?_; clear hK K))
            | (refine hd_pure_on rfl rfl rfl (fun K hK => ?_); apply Exists.intro; refine ⟨fun w2 => ?_, ?_⟩; (go_simp; exact .mk); (go_simp; refine hK _ ?_; clear hK K))
            | (refine hd_cps_on rfl rfl rfl (fun K hK => ?_); apply Exists.intro; refine ⟨fun w2 hR => ?_, ?_⟩; (have d0 := hR.cell 0 q0; have d1 := hR.cell 1 q1; have d2 := hR.cell 2 q2; have d3 := hR.cell 3 q3; have d4 := hR.cell 4 q4; have d5 := hR.cell 5 q5; have d6 := hR.cell 6 q6; go_simp; first | (exact .value (Reg.E.refl _)) | (exact .enter (Reg.E.refl _) (RI w2))); (go_simp; refine hK _ ?_; clear hK K)))
          refine RegP.hd_nil ?_
          intro w30 hE30
          refine rest_off (RK_prot _) (f := 7) (k := 8) (by kernel_rfl) rfl rfl rfl (fun K hK => ?_)
          go_simp
          refine hK _ _ ?_
          clear hK K
          intro w31 hE31
          refine rest_off (RK_prot _) (f := 6) (k := 9) (by kernel_rfl) rfl rfl rfl (fun K hK => ?_)
          go_simp
          refine hK _ _ ?_
          clear hK K
          intro w32 hE32
          refine rest_off (RK_prot _) (f := 5) (k := 16) (by kernel_rfl) rfl rfl rfl (fun K hK => ?_)
          go_simp
          refine hK _ _ ?_
          clear hK K
          intro w33 hE33
          refine rest_off (RK_prot _) (f := 4) (k := 17) (by kernel_rfl) rfl rfl rfl (fun K hK => ?_)
          go_simp
          refine hK _ _ ?_
          clear hK K
          intro w34 hE34
          refine rest_off (RK_prot _) (f := 3) (k := 18) (by kernel_rfl) rfl rfl rfl (fun K hK => ?_)
          go_simp
          refine hK _ _ ?_
          clear hK K
          intro w35 hE35
          refine rest_off (RK_prot _) (f := 2) (k := 19) (by kernel_rfl) rfl rfl rfl (fun K hK => ?_)
          go_simp
          refine hK _ _ ?_
          clear hK K
          intro w36 hE36
          refine rest_on (f := 1) (k := 20) (by kernel_rfl) rfl rfl rfl (fun K hK => ?_)
          unfold Oper.wp
          go_simp
          refine hK _ _ ((RK_prot _).refl _) ?_
          clear hK K
          intro w37 hE37
          refine rest_on (f := 0) (k := 21) (by kernel_rfl) rfl rfl rfl (fun K hK => ?_)
          unfold Oper.wp
          go_simp
          refine hK _ _ ((RK_prot _).refl _) ?_
          clear hK K
          intro w38 hE38
          refine RegP.rest_end (by kernel_rfl) ?_
          have hEE : Reg.E (w20) w38 := Reg.E.trans (Reg.E.trans (Below.drew (Below.refl _ _)) hE30) (hE31.trans (hE32.trans (hE33.trans (hE34.trans (hE35.trans (hE36.trans (hE37.trans hE38)))))))
          have hbW' : Below w.heap.size w w38 := hbW.trans (hEE.to hbW.size)
          clear hE30 hE31 hE32 hE33 hE34 hE35 hE36 hE37 hE38 hEE
          go_wp2_with fail
          refine bodyPost_ret (by simp [*, results, Tryz.results12, go_sem]; try rfl) rfl ?_
          exact ⟨rfl, hbW'⟩
        · rw [hri] at RI
          replace RO := RO hri
          refine RegP.wp_region_P (R := RK w.heap.size) (hd := [0, 1, 2, 3, 4, 5, 6, 7, 10, 11, 12, 13, 14, 15]) (I := fun _ => true) (RK_prot _) (by kernel_rfl) (by kernel_rfl) ?_
          iterate 14 (first
            | (refine hd_off rfl rfl (fun K hK => ?_); (go_simp; refine hK _ ?_; clear hK K))
            | (refine hd_pure_on rfl rfl rfl (fun K hK => ?_); apply Exists.intro; refine ⟨fun w2 => ?_, ?_⟩; (go_simp; exact .mk); (go_simp; refine hK _ ?_; clear hK K))
            | (refine hd_cps_on rfl rfl rfl (fun K hK => ?_); apply Exists.intro; refine ⟨fun w2 hR => ?_, ?_⟩; (have d0 := hR.cell 0 q0; have d1 := hR.cell 1 q1; have d2 := hR.cell 2 q2; have d3 := hR.cell 3 q3; have d4 := hR.cell 4 q4; have d5 := hR.cell 5 q5; have d6 := hR.cell 6 q6; go_simp; first | (exact .value (Reg.E.refl _)) | (exact .enter (Reg.E.refl _) (RI w2))); (go_simp; refine hK _ ?_; clear hK K)))
          refine RegP.hd_nil ?_
          intro w30 hE30
          refine rest_on (f := 7) (k := 8) (by kernel_rfl) rfl rfl rfl (fun K hK => ?_)
          unfold Oper.wp
          go_simp
          refine hK _ _ (RK.alloc _ _ _) ?_
          clear hK K
          intro w31 hE31
          have blk31 : w31.heap[w30.heap.size]? = some (.cells ⟨It.cells ⟨t, r, x, i, u, s, y⟩⟩ 95 (0, 0)) := (hE31.block _ (by simp)).trans (MapKept.heap_alloc _ _).1
          have R9 := span_Room t (some ⟨w30.heap.size, 0, none⟩) 1 [⟨t, r, x, i, u, s, y⟩] w31 (by simp) (fun j v hj => ⟨_, rfl, by
            have hadd : (⟨w30.heap.size, 0, none⟩ : Addr).add j = ⟨w30.heap.size, j, none⟩ := by unfold Addr.add; split <;> simp_all
            rw [hadd]
            simp only [cellsI, List.flatMap_cons, List.flatMap_nil, List.append_nil] at hj
            simp [World.cell?, blk31, hj]⟩)
          rw [RO] at R9
          refine rest_on (f := 6) (k := 9) (by kernel_rfl) rfl rfl rfl (fun K hK => ?_)
          unfold Oper.wp
          go_simp
          refine R9.mono ?_
          rintro e w32 ⟨rfl, hb32⟩
          refine hK _ _ ((RK_prot _).ofE hb32) ?_
          clear hK K R9
          intro w33 hE33
          refine rest_on (f := 5) (k := 16) (by kernel_rfl) rfl rfl rfl (fun K hK => ?_)
          unfold Oper.wp
          go_simp
          refine (vtime_Since u t w33).mono ?_
          rintro e w34 ⟨rfl, hb34⟩
          refine hK _ _ ((RK_prot _).ofE hb34) ?_
          clear hK K
          intro w35 hE35
          generalize since u t = d at *
          refine rest_on (f := 4) (k := 17) (by kernel_rfl) rfl rfl rfl (fun K hK => ?_)
          unfold Oper.wp
          go_simp
          refine hK _ _ ((RK_prot _).refl _) ?_
          clear hK K
          intro w36 hE36
          refine rest_on (f := 3) (k := 18) (by kernel_rfl) rfl rfl rfl (fun K hK => ?_)
          unfold Oper.wp
          go_simp
          refine hK _ _ ((RK_prot _).refl _) ?_
          clear hK K
          intro w37 hE37
          refine rest_on (f := 2) (k := 19) (by kernel_rfl) rfl rfl rfl (fun K hK => ?_)
          unfold Oper.wp
          go_simp
          refine hK _ _ ((RK_prot _).refl _) ?_
          clear hK K
          intro w38 hE38
          refine rest_on (f := 1) (k := 20) (by kernel_rfl) rfl rfl rfl (fun K hK => ?_)
          unfold Oper.wp
          go_simp
          refine hK _ _ ((RK_prot _).refl _) ?_
          clear hK K
          intro w39 hE39
          refine rest_on (f := 0) (k := 21) (by kernel_rfl) rfl rfl rfl (fun K hK => ?_)
          unfold Oper.wp
          go_simp
          refine hK _ _ ((RK_prot _).refl _) ?_
          clear hK K
          intro w40 hE40
          refine RegP.rest_end (by kernel_rfl) ?_
          have hEE : Reg.E (w20) w40 := Reg.E.trans (Reg.E.trans (Below.drew (Below.refl _ _)) hE30) ((Reg.E.alloc _ _).trans (hE31.trans ((show Reg.E w31 w32 from hb32).trans (hE33.trans ((show Reg.E w33 w34 from hb34).trans (hE35.trans (hE36.trans (hE37.trans (hE38.trans (hE39.trans hE40))))))))))
          have hbW' : Below w.heap.size w w40 := hbW.trans (hEE.to hbW.size)
          clear hE30 hE31 hb32 hE33 hb34 hE35 hE36 hE37 hE38 hE39 hE40 hEE
          go_wp2_with fail
          refine bodyPost_ret (by simp [*, results, Tryz.results12, go_sem]; try rfl) rfl ?_
          exact ⟨rfl, hbW'⟩
      · have hne : l ≠ [] := by
          intro h
          subst h
          simp at hn
          omega
        replace hA := hA hne
        replace hB := hB hne
        have hgt : ¬ A2 < A1 := by omega
        have hnpos : (0 : Int) < n := by omega
        have hb5 : w.heap.size < w20.heap.size := (Array.getElem?_eq_some_iff.1 n0).1
        clear hA hne
        go_wp2_with fail
        refine (RM _ (Below.refl _ _)).mono ?_
        rintro e w21 ⟨rfl, hb21⟩
        go_wp2_with fail
        refine (RL _ hb21).mono ?_
        rintro e w22 ⟨rfl, hb22⟩
        have hb2 := hb21.trans (hb22.mono hb21.size)
        clear RM RL hb21 hb22
        go_wp2_with fail
        refine (WM _ hb2).mono ?_
        rintro e w23 ⟨rfl, hb23⟩
        have hb3 := hb2.trans (hb23.mono hb2.size)
        clear WM hb2 hb23
        cases hB1 : B1
        · subst hB1
          clear hB WL
          go_wp2_with fail
          have nW := (hb3.block _ hb5).trans n0
          have hbW := hb20.trans (hb3.mono hb20.size)
          have q0 : (w23).cell? ⟨w.heap.size, 0, none⟩ = some (.int .u64 t) := by simp [World.cell?, nW]
          have q1 : (w23).cell? ⟨w.heap.size, 1, none⟩ = some (.int .u32 r) := by simp [World.cell?, nW]
          have q2 : (w23).cell? ⟨w.heap.size, 2, none⟩ = some (.int .u32 x) := by simp [World.cell?, nW]
          have q3 : (w23).cell? ⟨w.heap.size, 3, none⟩ = some (.int .i64 i) := by simp [World.cell?, nW]
          have q4 : (w23).cell? ⟨w.heap.size, 4, none⟩ = some (.int .u64 u) := by simp [World.cell?, nW]
          have q5 : (w23).cell? ⟨w.heap.size, 5, none⟩ = some (.int .u32 s) := by simp [World.cell?, nW]
          have q6 : (w23).cell? ⟨w.heap.size, 6, none⟩ = some (.int .u32 y) := by simp [World.cell?, nW]
          have RI := fun w => item_Right t r x i u s y w
          have RO := fun h => room_one ⟨t, r, x, i, u, s, y⟩ h
          simp only [] at RO
          cases hri : rightI t r x i u s y
          · rw [hri] at RI
            clear RO
            refine RegP.wp_region_P (R := RK w.heap.size) (hd := [0, 1, 2, 3, 4, 5, 6, 7, 10, 11, 12, 13, 14, 15]) (I := fun _ => true) (RK_prot _) (by kernel_rfl) (by kernel_rfl) ?_
            iterate 14 (first
              | (refine hd_off rfl rfl (fun K hK => ?_); (go_simp; refine hK _ ?_; clear hK K))
              | (refine hd_pure_on rfl rfl rfl (fun K hK => ?_); apply Exists.intro; refine ⟨fun w2 => ?_, ?_⟩; (go_simp; exact .mk); (go_simp; refine hK _ ?_; clear hK K))
              | (refine hd_cps_on rfl rfl rfl (fun K hK => ?_); apply Exists.intro; refine ⟨fun w2 hR => ?_, ?_⟩; (have d0 := hR.cell 0 q0; have d1 := hR.cell 1 q1; have d2 := hR.cell 2 q2; have d3 := hR.cell 3 q3; have d4 := hR.cell 4 q4; have d5 := hR.cell 5 q5; have d6 := hR.cell 6 q6; go_simp; first | (exact .value (Reg.E.refl _)) | (exact .enter (Reg.E.refl _) (RI w2))); (go_simp; refine hK _ ?_; clear hK K)))
            refine RegP.hd_nil ?_
            intro w30 hE30
            refine rest_off (RK_prot _) (f := 7) (k := 8) (by kernel_rfl) rfl rfl rfl (fun K hK => ?_)
            go_simp
            refine hK _ _ ?_
            clear hK K
            intro w31 hE31
            refine rest_off (RK_prot _) (f := 6) (k := 9) (by kernel_rfl) rfl rfl rfl (fun K hK => ?_)
            go_simp
            refine hK _ _ ?_
            clear hK K
            intro w32 hE32
            refine rest_off (RK_prot _) (f := 5) (k := 16) (by kernel_rfl) rfl rfl rfl (fun K hK => ?_)
            go_simp
            refine hK _ _ ?_
            clear hK K
            intro w33 hE33
            refine rest_off (RK_prot _) (f := 4) (k := 17) (by kernel_rfl) rfl rfl rfl (fun K hK => ?_)
            go_simp
            refine hK _ _ ?_
            clear hK K
            intro w34 hE34
            refine rest_off (RK_prot _) (f := 3) (k := 18) (by kernel_rfl) rfl rfl rfl (fun K hK => ?_)
            go_simp
            refine hK _ _ ?_
            clear hK K
            intro w35 hE35
            refine rest_off (RK_prot _) (f := 2) (k := 19) (by kernel_rfl) rfl rfl rfl (fun K hK => ?_)
            go_simp
            refine hK _ _ ?_
            clear hK K
            intro w36 hE36
            refine rest_on (f := 1) (k := 20) (by kernel_rfl) rfl rfl rfl (fun K hK => ?_)
            unfold Oper.wp
            go_simp
            refine hK _ _ ((RK_prot _).refl _) ?_
            clear hK K
            intro w37 hE37
            refine rest_on (f := 0) (k := 21) (by kernel_rfl) rfl rfl rfl (fun K hK => ?_)
            unfold Oper.wp
            go_simp
            refine hK _ _ ((RK_prot _).refl _) ?_
            clear hK K
            intro w38 hE38
            refine RegP.rest_end (by kernel_rfl) ?_
            have hEE : Reg.E (w23) w38 := Reg.E.trans (Reg.E.trans (Below.drew (Below.refl _ _)) hE30) (hE31.trans (hE32.trans (hE33.trans (hE34.trans (hE35.trans (hE36.trans (hE37.trans hE38)))))))
            have hbW' : Below w.heap.size w w38 := hbW.trans (hEE.to hbW.size)
            clear hE30 hE31 hE32 hE33 hE34 hE35 hE36 hE37 hE38 hEE
            go_wp2_with fail
            refine bodyPost_ret (by simp [*, results, Tryz.results12, go_sem]; try rfl) rfl ?_
            exact ⟨rfl, hbW'⟩
          · rw [hri] at RI
            replace RO := RO hri
            refine RegP.wp_region_P (R := RK w.heap.size) (hd := [0, 1, 2, 3, 4, 5, 6, 7, 10, 11, 12, 13, 14, 15]) (I := fun _ => true) (RK_prot _) (by kernel_rfl) (by kernel_rfl) ?_
            iterate 14 (first
              | (refine hd_off rfl rfl (fun K hK => ?_); (go_simp; refine hK _ ?_; clear hK K))
              | (refine hd_pure_on rfl rfl rfl (fun K hK => ?_); apply Exists.intro; refine ⟨fun w2 => ?_, ?_⟩; (go_simp; exact .mk); (go_simp; refine hK _ ?_; clear hK K))
              | (refine hd_cps_on rfl rfl rfl (fun K hK => ?_); apply Exists.intro; refine ⟨fun w2 hR => ?_, ?_⟩; (have d0 := hR.cell 0 q0; have d1 := hR.cell 1 q1; have d2 := hR.cell 2 q2; have d3 := hR.cell 3 q3; have d4 := hR.cell 4 q4; have d5 := hR.cell 5 q5; have d6 := hR.cell 6 q6; go_simp; first | (exact .value (Reg.E.refl _)) | (exact .enter (Reg.E.refl _) (RI w2))); (go_simp; refine hK _ ?_; clear hK K)))
            refine RegP.hd_nil ?_
            intro w30 hE30
            refine rest_on (f := 7) (k := 8) (by kernel_rfl) rfl rfl rfl (fun K hK => ?_)
            unfold Oper.wp
            go_simp
            refine hK _ _ (RK.alloc _ _ _) ?_
            clear hK K
            intro w31 hE31
            have blk31 : w31.heap[w30.heap.size]? = some (.cells ⟨It.cells ⟨t, r, x, i, u, s, y⟩⟩ 95 (0, 0)) := (hE31.block _ (by simp)).trans (MapKept.heap_alloc _ _).1
            have R9 := span_Room t (some ⟨w30.heap.size, 0, none⟩) 1 [⟨t, r, x, i, u, s, y⟩] w31 (by simp) (fun j v hj => ⟨_, rfl, by
              have hadd : (⟨w30.heap.size, 0, none⟩ : Addr).add j = ⟨w30.heap.size, j, none⟩ := by unfold Addr.add; split <;> simp_all
              rw [hadd]
              simp only [cellsI, List.flatMap_cons, List.flatMap_nil, List.append_nil] at hj
              simp [World.cell?, blk31, hj]⟩)
            rw [RO] at R9
            refine rest_on (f := 6) (k := 9) (by kernel_rfl) rfl rfl rfl (fun K hK => ?_)
            unfold Oper.wp
            go_simp
            refine R9.mono ?_
            rintro e w32 ⟨rfl, hb32⟩
            refine hK _ _ ((RK_prot _).ofE hb32) ?_
            clear hK K R9
            intro w33 hE33
            refine rest_on (f := 5) (k := 16) (by kernel_rfl) rfl rfl rfl (fun K hK => ?_)
            unfold Oper.wp
            go_simp
            refine (vtime_Since u t w33).mono ?_
            rintro e w34 ⟨rfl, hb34⟩
            refine hK _ _ ((RK_prot _).ofE hb34) ?_
            clear hK K
            intro w35 hE35
            generalize since u t = d at *
            refine rest_on (f := 4) (k := 17) (by kernel_rfl) rfl rfl rfl (fun K hK => ?_)
            unfold Oper.wp
            go_simp
            refine hK _ _ ((RK_prot _).refl _) ?_
            clear hK K
            intro w36 hE36
            refine rest_on (f := 3) (k := 18) (by kernel_rfl) rfl rfl rfl (fun K hK => ?_)
            unfold Oper.wp
            go_simp
            refine hK _ _ ((RK_prot _).refl _) ?_
            clear hK K
            intro w37 hE37
            refine rest_on (f := 2) (k := 19) (by kernel_rfl) rfl rfl rfl (fun K hK => ?_)
            unfold Oper.wp
            go_simp
            refine hK _ _ ((RK_prot _).refl _) ?_
            clear hK K
            intro w38 hE38
            refine rest_on (f := 1) (k := 20) (by kernel_rfl) rfl rfl rfl (fun K hK => ?_)
            unfold Oper.wp
            go_simp
            refine hK _ _ ((RK_prot _).refl _) ?_
            clear hK K
            intro w39 hE39
            refine rest_on (f := 0) (k := 21) (by kernel_rfl) rfl rfl rfl (fun K hK => ?_)
            unfold Oper.wp
            go_simp
            refine hK _ _ ((RK_prot _).refl _) ?_
            clear hK K
            intro w40 hE40
            refine RegP.rest_end (by kernel_rfl) ?_
            have hEE : Reg.E (w23) w40 := Reg.E.trans (Reg.E.trans (Below.drew (Below.refl _ _)) hE30) ((Reg.E.alloc _ _).trans (hE31.trans ((show Reg.E w31 w32 from hb32).trans (hE33.trans ((show Reg.E w33 w34 from hb34).trans (hE35.trans (hE36.trans (hE37.trans (hE38.trans (hE39.trans hE40))))))))))
            have hbW' : Below w.heap.size w w40 := hbW.trans (hEE.to hbW.size)
            clear hE30 hE31 hb32 hE33 hb34 hE35 hE36 hE37 hE38 hE39 hE40 hEE
            go_wp2_with fail
            refine bodyPost_ret (by simp [*, results, Tryz.results12, go_sem]; try rfl) rfl ?_
            exact ⟨rfl, hbW'⟩
        · have hB2 := hB hB1
          subst hB1
          subst hB2
          clear hB
          go_wp2_with fail
          refine (WL _ hb3).mono ?_
          rintro e w24 ⟨rfl, hb24⟩
          have hb4 := hb3.trans (hb24.mono hb3.size)
          clear WL hb3 hb24
          go_wp2_with fail
          have nW := (hb4.block _ hb5).trans n0
          have hbW := hb20.trans (hb4.mono hb20.size)
          have q0 : (w24).cell? ⟨w.heap.size, 0, none⟩ = some (.int .u64 t) := by simp [World.cell?, nW]
          have q1 : (w24).cell? ⟨w.heap.size, 1, none⟩ = some (.int .u32 r) := by simp [World.cell?, nW]
          have q2 : (w24).cell? ⟨w.heap.size, 2, none⟩ = some (.int .u32 x) := by simp [World.cell?, nW]
          have q3 : (w24).cell? ⟨w.heap.size, 3, none⟩ = some (.int .i64 i) := by simp [World.cell?, nW]
          have q4 : (w24).cell? ⟨w.heap.size, 4, none⟩ = some (.int .u64 u) := by simp [World.cell?, nW]
          have q5 : (w24).cell? ⟨w.heap.size, 5, none⟩ = some (.int .u32 s) := by simp [World.cell?, nW]
          have q6 : (w24).cell? ⟨w.heap.size, 6, none⟩ = some (.int .u32 y) := by simp [World.cell?, nW]
          have RI := fun w => item_Right t r x i u s y w
          have RO := fun h => room_one ⟨t, r, x, i, u, s, y⟩ h
          simp only [] at RO
          cases hri : rightI t r x i u s y
          · rw [hri] at RI
            clear RO
            refine RegP.wp_region_P (R := RK w.heap.size) (hd := [0, 1, 2, 3, 4, 5, 6, 7, 10, 11, 12, 13, 14, 15]) (I := fun _ => true) (RK_prot _) (by kernel_rfl) (by kernel_rfl) ?_
            iterate 14 (first
              | (refine hd_off rfl rfl (fun K hK => ?_); (go_simp; refine hK _ ?_; clear hK K))
              | (refine hd_pure_on rfl rfl rfl (fun K hK => ?_); apply Exists.intro; refine ⟨fun w2 => ?_, ?_⟩; (go_simp; exact .mk); (go_simp; refine hK _ ?_; clear hK K))
              | (refine hd_cps_on rfl rfl rfl (fun K hK => ?_); apply Exists.intro; refine ⟨fun w2 hR => ?_, ?_⟩; (have d0 := hR.cell 0 q0; have d1 := hR.cell 1 q1; have d2 := hR.cell 2 q2; have d3 := hR.cell 3 q3; have d4 := hR.cell 4 q4; have d5 := hR.cell 5 q5; have d6 := hR.cell 6 q6; go_simp; first | (exact .value (Reg.E.refl _)) | (exact .enter (Reg.E.refl _) (RI w2))); (go_simp; refine hK _ ?_; clear hK K)))
            refine RegP.hd_nil ?_
            intro w30 hE30
            refine rest_off (RK_prot _) (f := 7) (k := 8) (by kernel_rfl) rfl rfl rfl (fun K hK => ?_)
            go_simp
            refine hK _ _ ?_
            clear hK K
            intro w31 hE31
            refine rest_off (RK_prot _) (f := 6) (k := 9) (by kernel_rfl) rfl rfl rfl (fun K hK => ?_)
            go_simp
            refine hK _ _ ?_
            clear hK K
            intro w32 hE32
            refine rest_off (RK_prot _) (f := 5) (k := 16) (by kernel_rfl) rfl rfl rfl (fun K hK => ?_)
            go_simp
            refine hK _ _ ?_
            clear hK K
            intro w33 hE33
            refine rest_off (RK_prot _) (f := 4) (k := 17) (by kernel_rfl) rfl rfl rfl (fun K hK => ?_)
            go_simp
            refine hK _ _ ?_
            clear hK K
            intro w34 hE34
            refine rest_off (RK_prot _) (f := 3) (k := 18) (by kernel_rfl) rfl rfl rfl (fun K hK => ?_)
            go_simp
            refine hK _ _ ?_
            clear hK K
            intro w35 hE35
            refine rest_off (RK_prot _) (f := 2) (k := 19) (by kernel_rfl) rfl rfl rfl (fun K hK => ?_)
            go_simp
            refine hK _ _ ?_
            clear hK K
            intro w36 hE36
            refine rest_on (f := 1) (k := 20) (by kernel_rfl) rfl rfl rfl (fun K hK => ?_)
            unfold Oper.wp
            go_simp
            refine hK _ _ ((RK_prot _).refl _) ?_
            clear hK K
            intro w37 hE37
            refine rest_on (f := 0) (k := 21) (by kernel_rfl) rfl rfl rfl (fun K hK => ?_)
            unfold Oper.wp
            go_simp
            refine hK _ _ ((RK_prot _).refl _) ?_
            clear hK K
            intro w38 hE38
            refine RegP.rest_end (by kernel_rfl) ?_
            have hEE : Reg.E (w24) w38 := Reg.E.trans (Reg.E.trans (Below.drew (Below.refl _ _)) hE30) (hE31.trans (hE32.trans (hE33.trans (hE34.trans (hE35.trans (hE36.trans (hE37.trans hE38)))))))
            have hbW' : Below w.heap.size w w38 := hbW.trans (hEE.to hbW.size)
            clear hE30 hE31 hE32 hE33 hE34 hE35 hE36 hE37 hE38 hEE
            go_wp2_with fail
            refine bodyPost_ret (by simp [*, results, Tryz.results12, go_sem]; try rfl) rfl ?_
            exact ⟨rfl, hbW'⟩
          · rw [hri] at RI
            replace RO := RO hri
            refine RegP.wp_region_P (R := RK w.heap.size) (hd := [0, 1, 2, 3, 4, 5, 6, 7, 10, 11, 12, 13, 14, 15]) (I := fun _ => true) (RK_prot _) (by kernel_rfl) (by kernel_rfl) ?_
            iterate 14 (first
              | (refine hd_off rfl rfl (fun K hK => ?_); (go_simp; refine hK _ ?_; clear hK K))
              | (refine hd_pure_on rfl rfl rfl (fun K hK => ?_); apply Exists.intro; refine ⟨fun w2 => ?_, ?_⟩; (go_simp; exact .mk); (go_simp; refine hK _ ?_; clear hK K))
              | (refine hd_cps_on rfl rfl rfl (fun K hK => ?_); apply Exists.intro; refine ⟨fun w2 hR => ?_, ?_⟩; (have d0 := hR.cell 0 q0; have d1 := hR.cell 1 q1; have d2 := hR.cell 2 q2; have d3 := hR.cell 3 q3; have d4 := hR.cell 4 q4; have d5 := hR.cell 5 q5; have d6 := hR.cell 6 q6; go_simp; first | (exact .value (Reg.E.refl _)) | (exact .enter (Reg.E.refl _) (RI w2))); (go_simp; refine hK _ ?_; clear hK K)))
            refine RegP.hd_nil ?_
            intro w30 hE30
            refine rest_on (f := 7) (k := 8) (by kernel_rfl) rfl rfl rfl (fun K hK => ?_)
            unfold Oper.wp
            go_simp
            refine hK _ _ (RK.alloc _ _ _) ?_
            clear hK K
            intro w31 hE31
            have blk31 : w31.heap[w30.heap.size]? = some (.cells ⟨It.cells ⟨t, r, x, i, u, s, y⟩⟩ 95 (0, 0)) := (hE31.block _ (by simp)).trans (MapKept.heap_alloc _ _).1
            have R9 := span_Room t (some ⟨w30.heap.size, 0, none⟩) 1 [⟨t, r, x, i, u, s, y⟩] w31 (by simp) (fun j v hj => ⟨_, rfl, by
              have hadd : (⟨w30.heap.size, 0, none⟩ : Addr).add j = ⟨w30.heap.size, j, none⟩ := by unfold Addr.add; split <;> simp_all
              rw [hadd]
              simp only [cellsI, List.flatMap_cons, List.flatMap_nil, List.append_nil] at hj
              simp [World.cell?, blk31, hj]⟩)
            rw [RO] at R9
            refine rest_on (f := 6) (k := 9) (by kernel_rfl) rfl rfl rfl (fun K hK => ?_)
            unfold Oper.wp
            go_simp
            refine R9.mono ?_
            rintro e w32 ⟨rfl, hb32⟩
            refine hK _ _ ((RK_prot _).ofE hb32) ?_
            clear hK K R9
            intro w33 hE33
            refine rest_on (f := 5) (k := 16) (by kernel_rfl) rfl rfl rfl (fun K hK => ?_)
            unfold Oper.wp
            go_simp
            refine (vtime_Since u t w33).mono ?_
            rintro e w34 ⟨rfl, hb34⟩
            refine hK _ _ ((RK_prot _).ofE hb34) ?_
            clear hK K
            intro w35 hE35
            generalize since u t = d at *
            refine rest_on (f := 4) (k := 17) (by kernel_rfl) rfl rfl rfl (fun K hK => ?_)
            unfold Oper.wp
            go_simp
            refine hK _ _ ((RK_prot _).refl _) ?_
            clear hK K
            intro w36 hE36
            refine rest_on (f := 3) (k := 18) (by kernel_rfl) rfl rfl rfl (fun K hK => ?_)
            unfold Oper.wp
            go_simp
            refine hK _ _ ((RK_prot _).refl _) ?_
            clear hK K
            intro w37 hE37
            refine rest_on (f := 2) (k := 19) (by kernel_rfl) rfl rfl rfl (fun K hK => ?_)
            unfold Oper.wp
            go_simp
            refine hK _ _ ((RK_prot _).refl _) ?_
            clear hK K
            intro w38 hE38
            refine rest_on (f := 1) (k := 20) (by kernel_rfl) rfl rfl rfl (fun K hK => ?_)
            unfold Oper.wp
            go_simp
            refine hK _ _ ((RK_prot _).refl _) ?_
            clear hK K
            intro w39 hE39
            refine rest_on (f := 0) (k := 21) (by kernel_rfl) rfl rfl rfl (fun K hK => ?_)
            unfold Oper.wp
            go_simp
            refine hK _ _ ((RK_prot _).refl _) ?_
            clear hK K
            intro w40 hE40
            refine RegP.rest_end (by kernel_rfl) ?_
            have hEE : Reg.E (w24) w40 := Reg.E.trans (Reg.E.trans (Below.drew (Below.refl _ _)) hE30) ((Reg.E.alloc _ _).trans (hE31.trans ((show Reg.E w31 w32 from hb32).trans (hE33.trans ((show Reg.E w33 w34 from hb34).trans (hE35.trans (hE36.trans (hE37.trans (hE38.trans (hE39.trans hE40))))))))))
            have hbW' : Below w.heap.size w w40 := hbW.trans (hEE.to hbW.size)
            clear hE30 hE31 hb32 hE33 hb34 hE35 hE36 hE37 hE38 hE39 hE40 hEE
            go_wp2_with fail
            refine bodyPost_ret (by simp [*, results, Tryz.results12, go_sem]; try rfl) rfl ?_
            exact ⟨rfl, hbW'⟩
end Go.Proofs.YtemfhipofgafiaaGreatDoor
