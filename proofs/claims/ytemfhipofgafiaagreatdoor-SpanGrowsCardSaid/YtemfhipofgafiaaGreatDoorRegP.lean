/- AS IN THE TEXT ON REGIONS, WITH A RELATION OF ONE's OWN FOR WHAT IS KEPT, AND LISTS OF NUMBERS FOR THE HEAD: of operations that read, or reckon, or call what only makes memory, the order doesn't matter, also where others, that write elsewhere, come between them. -/
import Derived.Test.YtemfhipofgafiaaGreatDoorRegion
set_option linter.unusedVariables false
namespace Go.Proofs.YtemfhipofgafiaaGreatDoor.RegP
open Go Go.RowKit Go.Proofs.YtemfhipofgafiaaGreatDoor.Reg

structure Prot (R : World → World → Prop) : Prop where
  refl : ∀ w, R w w
  trans : ∀ {a b c}, R a b → R b c → R a c
  ofE : ∀ {a b}, E a b → R a b

/-- In all worlds from w on (what R keeps being as it is) the operation comes to v; one that only reckons does so in whatever world. -/
def Steady (P : Program) (ops : Array Oper) (R : World → World → Prop) (o : Oper) (v : Value) (a : Act) (w : World) : Prop :=
  (Region.wanted o (yielded ops a.tmps) = true ∧
    ((isA o = true ∧ ∀ w', R w w' → Comes1 P v w' ((execOp a.eval o).run P w')) ∨ (isA o = false ∧ ∀ w', (execOp a.eval o).run P w' = .ok (.value v) w'))) ∨
  (Region.wanted o (yielded ops a.tmps) = false ∧ v = undef)

section
variable {P : Program} {ops : Array Oper} {md : Region.Mode} {Q : Exit → Act → World → Prop} {R : World → World → Prop} {I : Nat → Bool} {hd : List Nat}

theorem Steady.mono (hR : Prot R) {o : Oper} {v : Value} {a : Act} {w w' : World} (h : Steady P ops R o v a w) (k : R w w') : Steady P ops R o v a w' :=
  h.imp (fun ⟨h1, h2⟩ => ⟨h1, h2.imp (fun ⟨x, y⟩ => ⟨x, fun w'' k' => y w'' (hR.trans k k')⟩) id⟩) id
theorem Steady.any {o : Oper} {v : Value} {a : Act} {w : World} (h : Steady P ops R o v a w) (hp : isA o = false) (w' : World) : Steady P ops R o v a w' :=
  h.imp (fun ⟨h1, h2⟩ => ⟨h1, h2.imp (fun ⟨x, _⟩ => by rw [hp] at x; cases x) id⟩) id

theorem Steady.of_same {o : Oper} {v : Value} {a a' : Act} {w : World} (hy : Steady P ops R o v a w) (he : execOp a'.eval o = execOp a.eval o)
    (hw : Region.wanted o (yielded ops a'.tmps) = Region.wanted o (yielded ops a.tmps)) : Steady P ops R o v a' w := by
  unfold Steady at *
  rw [he, hw]
  exact hy

theorem Steady.wpOp (hR : Prot R) {i : Nat} {o : Oper} {v : Value} {a : Act} {w : World} (hi : ops[i]? = some o) (hy : Steady P ops R o v a w) {K : Act → World → Prop}
    (hK : ∀ w', E w w' → (isA o = false → w' = w) → K (a.put o.dst v) w') : wpOp P ops (QN Q) i K a w := by
  unfold Go.wpOp
  simp only [hi]
  rcases hy with ⟨hw, hv⟩ | ⟨hw, rfl⟩
  · simp only [hw, if_true]
    refine .inl ?_
    unfold Oper.wp
    rcases hv with ⟨hp, hv⟩ | ⟨hp, hv⟩
    · have h1 := hv w (hR.refl _)
      generalize (execOp a.eval o).run P w = r at *
      cases h1 with
      | value h => exact hK _ h (fun hp' => by rw [hp] at hp'; cases hp')
      | enter h c =>
        simp only [Oper.upon]
        refine Calls.mono c (fun e w'' he => ?_)
        obtain ⟨rfl, hb⟩ := he
        exact hK _ (h.trans hb) (fun hp' => by rw [hp] at hp'; cases hp')
    · rw [hv w]
      exact hK _ (E.refl w) (fun _ => rfl)
  · simp only [hw, Bool.false_eq_true, if_false]; exact hK _ (E.refl w) (fun _ => rfl)

theorem wpOp_put' {j : Nat} {oi oj : Oper} {v : Value} (hj : ops[j]? = some oj) (hap : oi.apart ops oj = true)
    (hsi : ∀ cs b, oi.op ≠ .select cs b) (hsj : ∀ cs b, oj.op ≠ .select cs b)
    {K : Act → World → Prop} {a : Act} {w w0 : World} (hy : Steady P ops R oi v a w0) (h : wpOp P ops (QN Q) j K (a.put oi.dst v) w) :
    wpOp P ops (QN Q) j (fun a' w' => Steady P ops R oi v a' w0 ∧ K (a'.put oi.dst v) w') a w := by
  obtain ⟨h1, h2, h3⟩ := Oper.apart_spec hap
  have keep : ∀ (a : Act), Steady P ops R oi v a w0 → ∀ u, Steady P ops R oi v (a.put oj.dst u) w0 := fun a hy u =>
    hy.of_same (execOp_put oi hsi a oj.dst u h3) (wanted_put oi a oj.dst u h3)
  have keepD : ∀ d, Steady P ops R oi v { a with defers := d :: a.defers } w0 := fun d => hy.of_same rfl rfl
  unfold Go.wpOp at *
  simp only [hj] at *
  rw [wanted_put oj a oi.dst v h1] at h
  split
  · rename_i hw
    simp only [hw, if_true] at h
    rcases h with h | ⟨_, _, _, hh⟩
    case inr => exact hh.elim
    refine .inl ?_
    unfold Oper.wp at *
    rw [execOp_put oj hsj a oi.dst v h1] at h
    generalize (execOp a.eval oj).run P w = r at *
    cases r with
    | ok n w' =>
      cases n <;> simp only [Oper.upon] at h ⊢
      case value u => exact ⟨keep a hy u, by rw [← Act.put_comm a v u h2]; exact h⟩
      case skip => exact ⟨keep a hy _, by rw [← Act.put_comm a v undef h2]; exact h⟩
      case defer d =>
        refine ⟨keep _ (keepD d) _, ?_⟩
        rw [← Act.put_comm _ v undef h2, ← Act.put_defers]
        exact h
      case enter f args =>
        refine Calls.mono h fun e w'' he => ?_
        cases e with
        | returned u => exact ⟨keep a hy u, by rw [← Act.put_comm a v u h2]; exact he⟩
        | panicked c => exact he
        | outgrown => exact he
      case row row args => exact Rows.mono h fun u w'' he => ⟨keep a hy u, by rw [← Act.put_comm a v u h2]; exact he⟩
    | halt x w' =>
      cases x <;> simp only [Oper.upon] at h ⊢
      case panic u => exact h
  · rename_i hw
    simp only [hw] at h
    exact ⟨keep a hy _, by rw [← Act.put_comm a v undef h2]; exact h⟩

/-- The order of the operations: those of I may come in many orders, in worlds that others of them have left ('ph'); those that aren't of I wait for all of the head that look at memory. -/
def wpM (P : Program) (md : Region.Mode) (ops : Array Oper) (Q : Exit → Act → World → Prop) (R : World → World → Prop) (I : Nat → Bool) : Nat → Bool → Array Bool → Act → World → Prop
  | 0, _, listed, a, w => Region.ready md ops listed = [] ∧ Q .normal a w
  | f + 1, ph, listed, a, w =>
    (Region.ready md ops listed = [] → Q .normal a w) ∧ ∀ j ∈ Region.ready md ops listed, Go.wpOp P ops (QN Q) j (fun a' w'' =>
      if (ph && I j) = true then R w w'' ∧ ∀ w3, E w'' w3 → wpM P md ops Q R I f ph (listed.setIfInBounds j true) a' w3
      else wpM P md ops Q R I f false (listed.setIfInBounds j true) a' w'') a w

theorem wpAny_of_wpM : ∀ (f : Nat) (ph : Bool) (listed : Array Bool) (a : Act) (w : World), wpM P md ops Q R I f ph listed a w → wpAny P md ops Q f listed a w
  | 0, _, _, _, _, h => h
  | f + 1, ph, listed, a, w, h => ⟨h.1, fun i hi => wpOp_mono (fun a' w' h' => by
      split at h'
      · exact wpAny_of_wpM f ph _ a' w' (h'.2 w' (E.refl _))
      · exact wpAny_of_wpM f false _ a' w' h') (wpOp_noQ (h.2 i hi))⟩

def lateB (md : Region.Mode) (ops : Array Oper) (I : Nat → Bool) (hd : List Nat) : Bool :=
  (List.range ops.size).all fun t => I t || hd.all fun i => ((ops[i]?).map isA).getD false == false || (before md ops t).contains i

theorem late {i t : Nat} {oi : Oper} {listed : Array Bool} (hB : lateB md ops I hd = true) (inv : Inv md ops listed) (hi : ops[i]? = some oi) (hA : isA oi = true) (him : i ∈ hd) (hIi : I i = true) (hun : listed.getD i true = false)
    (ht : t ∈ Region.ready md ops listed) : I t = true := by
  cases h : I t with
  | true => rfl
  | false =>
    exfalso
    obtain ⟨_, ot, hot, _⟩ := mem_ready.1 ht
    have htlt : t < ops.size := (Array.getElem?_eq_some_iff.1 hot).1
    have h1 := List.all_eq_true.1 hB t (List.mem_range.2 htlt)
    simp only [h, Bool.false_or] at h1
    have h2 := List.all_eq_true.1 h1 i him
    simp only [hi, Option.map_some, Option.getD_some, hA, Bool.or_eq_true] at h2
    rcases h2 with h2 | h2
    · cases h2
    · rcases before_listed inv ht i (by simpa using h2) with h3 | h3
      · subst h3; rw [hIi] at h; cases h
      · rw [getD_both hun] at h3; cases h3

/-- One that only reckons, behind one from m on. -/
theorem wpM_firstP2 (hR : Prot R) {i : Nat} {oi : Oper} {v : Value} (hi : ops[i]? = some oi) (hp : isA oi = false) (hsel : ∀ (j : Nat) (o : Oper) cs b, ops[j]? = some o → o.op ≠ .select cs b) :
    ∀ (f : Nat) (listed : Array Bool) (a : Act) (w : World),
      (∀ j oj, ops[j]? = some oj → j ≠ i → listed.getD j true = false → (∀ e ∈ oj.after, Region.binds md e = true → e.on ≠ i) → oi.apart ops oj = true) →
      i ∈ Region.ready md ops listed → Steady P ops R oi v a w →
      wpM P md ops Q R I f false (listed.setIfInBounds i true) (a.put oi.dst v) w → wpM P md ops Q R I (f + 1) false listed a w := by
  intro f
  induction f with
  | zero =>
    intro listed a w _ hr hy H
    refine ⟨fun h => (by rw [h] at hr; cases hr), fun j hj => ?_⟩
    by_cases hji : j = i
    · subst hji
      refine hy.wpOp hR hi (fun w'' _ hw => ?_)
      obtain rfl := hw hp
      simpa using H
    · have := ready_mono hj hji
      rw [H.1] at this
      cases this
  | succ f ih =>
    intro listed a w hfree hr hy H
    have hun := (mem_ready.1 hr).1
    refine ⟨fun h => (by rw [h] at hr; cases hr), fun j hj => ?_⟩
    by_cases hji : j = i
    · subst hji
      refine hy.wpOp hR hi (fun w'' _ hw => ?_)
      obtain rfl := hw hp
      simpa using H
    · have h1 := H.2 j (ready_mono hj hji)
      obtain ⟨hjun, oj, hoj, hall⟩ := mem_ready.1 hj
      have hnot : ∀ e ∈ oj.after, Region.binds md e = true → e.on ≠ i := fun e he hb heq => by
        have h1 := hall e he hb
        rw [heq, getD_both hun] at h1
        cases h1
      have h2 := wpOp_put' hoj (hfree j oj hoj hji hjun hnot) (fun cs b => hsel i oi cs b hi) (fun cs b => hsel j oj cs b hoj) hy h1
      refine wpOp_mono (fun a' w'' h3 => ?_) h2
      simp only [Bool.false_and, Bool.false_eq_true, if_false] at h3 ⊢
      refine ih (listed.setIfInBounds j true) a' w'' (free_set hjun hfree) (ready_mono hr (Ne.symm hji)) (h3.1.any hp w'') ?_
      rw [Array.setIfInBounds_comm _ _ hji]
      exact h3.2

theorem wpM_first (hR : Prot R) {i : Nat} {oi : Oper} {v : Value} (hi : ops[i]? = some oi) (him : i ∈ hd) (hIi : I i = true) (hsel : ∀ (j : Nat) (o : Oper) cs b, ops[j]? = some o → o.op ≠ .select cs b) (hlate : lateB md ops I hd = true) :
    ∀ (f : Nat) (listed : Array Bool) (a : Act) (w : World), Inv md ops listed →
      (∀ j oj, ops[j]? = some oj → j ≠ i → listed.getD j true = false → (∀ e ∈ oj.after, Region.binds md e = true → e.on ≠ i) → oi.apart ops oj = true) →
      i ∈ Region.ready md ops listed → Steady P ops R oi v a w →
      (∀ w', E w w' → wpM P md ops Q R I f true (listed.setIfInBounds i true) (a.put oi.dst v) w') → wpM P md ops Q R I (f + 1) true listed a w := by
  intro f
  induction f with
  | zero =>
    intro listed a w inv _ hr hy H
    refine ⟨fun h => (by rw [h] at hr; cases hr), fun j hj => ?_⟩
    by_cases hji : j = i
    · subst hji
      refine hy.wpOp hR hi (fun w'' hE _ => ?_)
      simp only [Bool.true_and, hIi, if_true]
      exact ⟨hR.ofE hE, fun w3 h3 => H w3 (hE.trans h3)⟩
    · have := ready_mono hj hji
      rw [(H w (E.refl w)).1] at this
      cases this
  | succ f ih =>
    intro listed a w inv hfree hr hy H
    have hun := (mem_ready.1 hr).1
    refine ⟨fun h => (by rw [h] at hr; cases hr), fun j hj => ?_⟩
    by_cases hji : j = i
    · subst hji
      refine hy.wpOp hR hi (fun w'' hE _ => ?_)
      simp only [Bool.true_and, hIi, if_true]
      exact ⟨hR.ofE hE, fun w3 h3 => H w3 (hE.trans h3)⟩
    · have h1 := (H w (E.refl w)).2 j (ready_mono hj hji)
      obtain ⟨hjun, oj, hoj, hall⟩ := mem_ready.1 hj
      have hnot : ∀ e ∈ oj.after, Region.binds md e = true → e.on ≠ i := fun e he hb heq => by
        have h1 := hall e he hb
        rw [heq, getD_both hun] at h1
        cases h1
      have h2 := wpOp_put' hoj (hfree j oj hoj hji hjun hnot) (fun cs b => hsel i oi cs b hi) (fun cs b => hsel j oj cs b hoj) hy h1
      refine wpOp_mono (fun a' w'' h3 => ?_) h2
      obtain ⟨hy', h4⟩ := h3
      by_cases hjm : I j = true
      · simp only [Bool.true_and, hjm, if_true] at h4 ⊢
        refine ⟨h4.1, fun w3 hE3 => ih (listed.setIfInBounds j true) a' w3 (inv.set hj) (free_set hjun hfree) (ready_mono hr (Ne.symm hji))
          (hy'.mono hR (hR.trans h4.1 (hR.ofE hE3))) (fun w4 hE4 => ?_)⟩
        rw [Array.setIfInBounds_comm _ _ hji]
        exact h4.2 w4 (hE3.trans hE4)
      · have hp : isA oi = false := by
          cases hp : isA oi with
          | false => rfl
          | true => exact absurd (late hlate inv hi hp him hIi hun hj) hjm
        simp only [Bool.true_and, hjm, Bool.false_eq_true, if_false] at h4 ⊢
        refine wpM_firstP2 hR hi hp hsel f (listed.setIfInBounds j true) a' w'' (free_set hjun hfree) (ready_mono hr (Ne.symm hji)) (hy'.any hp w'') ?_
        rw [Array.setIfInBounds_comm _ _ hji]
        exact h4

/-- The head's operations in a listed order: each steady. -/
def wpHead (P : Program) (ops : Array Oper) (R : World → World → Prop) (w : World) (F : Act → Prop) : List Nat → Act → Prop
  | [], a => F a
  | k :: rest, a => ∃ o v, ops[k]? = some o ∧ Steady P ops R o v a w ∧ wpHead P ops R w F rest (a.put o.dst v)
def marks : List Nat → Array Bool → Array Bool
  | [], listed => listed
  | k :: ks, listed => marks ks (listed.setIfInBounds k true)
def headB (md : Region.Mode) (ops : Array Oper) : List Nat → Array Bool → Bool
  | [], _ => true
  | k :: ks, listed => (Region.ready md ops listed).contains k && Region.free md ops listed k && headB md ops ks (listed.setIfInBounds k true)
def fitsP (ops : Array Oper) (hd : List Nat) (I : Nat → Bool) : Bool :=
  Region.noSelect ops && Nat.ble hd.length ops.size && lateB .any ops I hd && hd.all I && headB .any ops hd (Array.replicate ops.size false)

theorem wpM_head (hR : Prot R) (hsel : Region.noSelect ops = true) (hlate : lateB md ops I hd = true) {w : World} {F : Act → Prop} {g : Nat} :
    ∀ (l : List Nat) (listed : Array Bool) (a : Act), (∀ k ∈ l, k ∈ hd ∧ I k = true) → Inv md ops listed → headB md ops l listed = true →
    (∀ a, F a → ∀ w', E w w' → wpM P md ops Q R I g true (marks l listed) a w') → wpHead P ops R w F l a → ∀ w', E w w' → wpM P md ops Q R I (l.length + g) true listed a w'
  | [], listed, a, _, _, _, hF, h => fun w' hE => by
    simp only [List.length_nil, Nat.zero_add]
    exact hF a h w' hE
  | k :: l, listed, a, hl, inv, hB, hF, h => fun w' hE => by
    simp only [headB, Bool.and_eq_true] at hB
    obtain ⟨⟨hr, hf⟩, hB'⟩ := hB
    have hr' : k ∈ Region.ready md ops listed := by simpa using hr
    obtain ⟨o, v, h0, hy, hK⟩ := h
    rw [show (k :: l).length + g = (l.length + g) + 1 by simp; omega]
    exact wpM_first hR h0 (hl k (by simp)).1 (hl k (by simp)).2 (Region.noSelect_spec hsel) hlate (l.length + g) listed a w' inv (Region.free_spec h0 hf) hr' (hy.mono hR (hR.ofE hE))
      (fun w'' hE' => wpM_head hR hsel hlate l _ _ (fun j hj => hl j (List.mem_cons_of_mem _ hj)) (inv.set hr') hB' hF hK w'' (hE.trans hE'))

theorem wp_region_P {id : Nat} {a : Act} {w : World} (hR : Prot R) (hm : P.follows .mixedOrders = true) (hB : fitsP ops hd I = true)
    (h : wpHead P ops R w.drew (fun a' => ∀ w', E w.drew w' → wpM P .any ops Q R I (ops.size - hd.length) true (marks hd (Array.replicate ops.size false)) a' w') hd a) : (Code.region id ops true).wp P Q a w := by
  simp only [fitsP, Bool.and_eq_true, Nat.ble_eq] at hB
  obtain ⟨⟨⟨⟨hsel, hn⟩, hlate⟩, hI⟩, hhead⟩ := hB
  have inv0 : Inv .any ops (Array.replicate ops.size false) := ⟨by simp, fun j oj _ hl => (by rw [getD_replicate_false] at hl; cases hl)⟩
  have H := wpM_head (P := P) (md := .any) (Q := Q) hR hsel hlate (g := ops.size - hd.length) hd _ a (fun k hk => ⟨hk, List.all_eq_true.1 hI k hk⟩) inv0 hhead (fun a h => h) h w.drew (E.refl _)
  refine wp_region_any hm ?_
  have := wpAny_of_wpM _ _ _ _ _ H
  rw [show hd.length + (ops.size - hd.length) = ops.size by omega] at this
  exact this

/-! ### the steps of a walk -/
theorem hd_pure {w : World} {F : Act → Prop} {o : Oper} {k : Nat} {rest : List Nat} {a : Act} (ho : ops[k]? = some o) (hg : o.guard = none) (hA : isA o = false)
    (h : ∀ K : Act → Prop, (∀ a, wpHead P ops R w F rest a → K a) → ∃ v, (∀ w', Gives v w' ((execOp a.eval o).run P w')) ∧ K (a.put o.dst v)) : wpHead P ops R w F (k :: rest) a := by
  obtain ⟨v, h1, h2⟩ := h _ (fun _ h => h)
  exact ⟨o, v, ho, .inl ⟨by simp [Region.wanted, hg], .inr ⟨hA, fun w' => (h1 w').eq⟩⟩, h2⟩
theorem hd_cps {w : World} {F : Act → Prop} {o : Oper} {k : Nat} {rest : List Nat} {a : Act} (ho : ops[k]? = some o) (hg : o.guard = none) (hA : isA o = true)
    (h : ∀ K : Act → Prop, (∀ a, wpHead P ops R w F rest a → K a) → ∃ v, (∀ w', R w w' → Comes1 P v w' ((execOp a.eval o).run P w')) ∧ K (a.put o.dst v)) : wpHead P ops R w F (k :: rest) a := by
  obtain ⟨v, h1, h2⟩ := h _ (fun _ h => h)
  exact ⟨o, v, ho, .inl ⟨by simp [Region.wanted, hg], .inl ⟨hA, h1⟩⟩, h2⟩
theorem hd_nil {w : World} {F : Act → Prop} {a : Act} (h : F a) : wpHead P ops R w F [] a := h
theorem rest_op {k : Nat} {o : Oper} {f : Nat} {listed : Array Bool} {a : Act} {w : World} (ho : ops[k]? = some o) (hg : o.guard = none) (hI : I k = true)
    (h : o.wp P a w (fun a' w'' => R w w'' ∧ ∀ w3, E w'' w3 → wpM P md ops Q R I f true (listed.setIfInBounds k true) a' w3) (QN Q)) :
    Go.wpOp P ops (QN Q) k (fun a' w'' => if (true && I k) = true then R w w'' ∧ ∀ w3, E w'' w3 → wpM P md ops Q R I f true (listed.setIfInBounds k true) a' w3 else wpM P md ops Q R I f false (listed.setIfInBounds k true) a' w'') a w := by
  unfold Go.wpOp
  simp only [ho]
  rw [if_pos (by simp [Region.wanted, hg])]
  refine .inl (Oper.wp_mono (fun a' w'' h' => ?_) h)
  simp only [Bool.true_and, hI, if_true]
  exact h'
theorem rest_one {k : Nat} {o : Oper} {f : Nat} {listed : Array Bool} {a : Act} {w : World} (hr : Region.ready md ops listed = [k]) (ho : ops[k]? = some o) (hg : o.guard = none) (hI : I k = true)
    (h : o.wp P a w (fun a' w'' => R w w'' ∧ ∀ w3, E w'' w3 → wpM P md ops Q R I f true (listed.setIfInBounds k true) a' w3) (QN Q)) : wpM P md ops Q R I (f + 1) true listed a w :=
  ⟨fun h0 => (by rw [hr] at h0; cases h0), fun j hj => by
    rw [hr] at hj
    obtain rfl : j = k := by simpa using hj
    exact rest_op ho hg hI h⟩
theorem rest_two {k k2 : Nat} {o o2 : Oper} {f : Nat} {listed : Array Bool} {a : Act} {w : World} (hr : Region.ready md ops listed = [k, k2]) (ho : ops[k]? = some o) (ho2 : ops[k2]? = some o2) (hg : o.guard = none) (hg2 : o2.guard = none) (hI : I k = true) (hI2 : I k2 = true)
    (h : o.wp P a w (fun a' w'' => R w w'' ∧ ∀ w3, E w'' w3 → wpM P md ops Q R I f true (listed.setIfInBounds k true) a' w3) (QN Q))
    (h2 : o2.wp P a w (fun a' w'' => R w w'' ∧ ∀ w3, E w'' w3 → wpM P md ops Q R I f true (listed.setIfInBounds k2 true) a' w3) (QN Q)) : wpM P md ops Q R I (f + 1) true listed a w :=
  ⟨fun h0 => (by rw [hr] at h0; cases h0), fun j hj => by
    rw [hr] at hj
    rcases List.mem_cons.1 hj with rfl | hj
    · exact rest_op ho hg hI h
    · obtain rfl : j = k2 := by simpa using hj
      exact rest_op ho2 hg2 hI2 h2⟩
theorem rest_end {f : Nat} {listed : Array Bool} {a : Act} {w : World} (hr : Region.ready md ops listed = []) (h : Q .normal a w) : wpM P md ops Q R I f true listed a w := by
  cases f with
  | zero => exact ⟨hr, h⟩
  | succ f => exact ⟨fun _ => h, fun j hj => (by rw [hr] at hj; cases hj)⟩
end
end Go.Proofs.YtemfhipofgafiaaGreatDoor.RegP
