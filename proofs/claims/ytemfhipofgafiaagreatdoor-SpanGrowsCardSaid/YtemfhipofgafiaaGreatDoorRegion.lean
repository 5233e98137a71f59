/- A REGION THAT DRAWS ITS ORDER, WALKED IN THE ORDER OF THE TEXT: of operations that read, or call what only makes memory, the order doesn't matter. -/
import Derived.StillTail
import Derived.RowKit3
import Derived.Below
set_option linter.unusedVariables false
namespace Go.Proofs.YtemfhipofgafiaaGreatDoor.Reg
open Go Go.RowKit

/-- What was there is as it was. -/
def E (w w' : World) : Prop := Below w.heap.size w w'
theorem E.refl (w : World) : E w w := Below.refl _ _
theorem E.trans {a b c : World} (h : E a b) (k : E b c) : E a c := Below.trans h (Below.mono k h.size)
theorem E.to {B : Nat} {a b : World} (h : E a b) (hB : B ≤ a.heap.size) : Below B a b := Below.mono h hB
theorem E.alloc (w : World) (o : Obj) : E w (w.alloc o) := Below.alloc (Below.refl _ _) (Nat.le_refl _) o

/-- No way out but the end. -/
def QN (Q : Exit → Act → World → Prop) : Exit → Act → World → Prop
  | .normal, a, w => Q .normal a w
  | _, _, _ => False

theorem upon_noQ {P : Program} {o : Oper} {a : Act} {w : World} {K : Act → World → Prop} {Q : Exit → Act → World → Prop} (h : o.wp P a w K (QN Q)) : o.wp P a w K Q := by
  unfold Oper.wp at *
  generalize (execOp a.eval o).run P w = r at *
  cases r with
  | ok n w' =>
    cases n <;> simp only [Oper.upon] at h ⊢
    case value => exact h
    case skip => exact h
    case defer => exact h
    case enter =>
      refine Calls.mono h (fun e w'' he => ?_)
      cases e with
      | returned v => exact he
      | panicked c => exact he.elim
      | outgrown => obtain ⟨_, _, hh⟩ := he; exact hh.elim
    case row => exact h
  | halt x w' =>
    cases x <;> simp only [Oper.upon] at h ⊢
    case panic => exact h.elim

theorem wpOp_noQ {P : Program} {ops : Array Oper} {i : Nat} {a : Act} {w : World} {K : Act → World → Prop} {Q : Exit → Act → World → Prop} (h : wpOp P ops (QN Q) i K a w) : wpOp P ops Q i K a w := by
  unfold wpOp at *
  split
  · rename_i ho; simp only [ho] at h; exact h
  · rename_i o ho
    simp only [ho] at h
    split
    · rename_i hw
      simp only [hw, if_true] at h
      rcases h with h | ⟨_, _, _, hh⟩
      · exact .inl (upon_noQ h)
      · exact hh.elim
    · rename_i hw; simp only [hw] at h; exact h

/-- In this world the operation comes to v, and what was there is as it was. -/
inductive Comes1 (P : Program) (v : Value) (w : World) : Result Next → Prop
  | value {w' : World} (h : E w w') : Comes1 P v w (.ok (.value v) w')
  | enter {f : FuncId} {args : Array Value} {w' : World} (h : E w w') (c : Calls P f args w' fun e w'' => e = .returned v ∧ Below w'.heap.size w' w'') : Comes1 P v w (.ok (.enter f args) w')

/-- Does an operation look at memory, or make or write some? (false: it reckons with temporaries alone.) -/
def isA (o : Oper) : Bool := match o.op with
  | .move .. | .assign .. | .fieldAddr .. | .extract .. | .convert .. | .binOp .. | .unOp .. | .pick .. | .build .. => false
  | _ => true

/-- In all worlds from w on (what lies below B being as it is) the operation comes to v; one that only reckons does so in whatever world. -/
def Steady (P : Program) (ops : Array Oper) (B : Nat) (o : Oper) (v : Value) (a : Act) (w : World) : Prop :=
  (Region.wanted o (yielded ops a.tmps) = true ∧
    ((isA o = true ∧ ∀ w', Below B w w' → Comes1 P v w' ((execOp a.eval o).run P w')) ∨ (isA o = false ∧ ∀ w', (execOp a.eval o).run P w' = .ok (.value v) w'))) ∨
  (Region.wanted o (yielded ops a.tmps) = false ∧ v = undef)

section
variable {P : Program} {ops : Array Oper} {md : Region.Mode} {Q : Exit → Act → World → Prop} {B : Nat}

theorem Steady.mono {o : Oper} {v : Value} {a : Act} {w w' : World} (h : Steady P ops B o v a w) (k : Below B w w') : Steady P ops B o v a w' :=
  h.imp (fun ⟨h1, h2⟩ => ⟨h1, h2.imp (fun ⟨x, y⟩ => ⟨x, fun w'' k' => y w'' (k.trans k')⟩) id⟩) id
theorem Steady.any {o : Oper} {v : Value} {a : Act} {w : World} (h : Steady P ops B o v a w) (hp : isA o = false) (w' : World) : Steady P ops B o v a w' :=
  h.imp (fun ⟨h1, h2⟩ => ⟨h1, h2.imp (fun ⟨x, _⟩ => by rw [hp] at x; cases x) id⟩) id

theorem Steady.of_same {o : Oper} {v : Value} {a a' : Act} {w : World} (hy : Steady P ops B o v a w) (he : execOp a'.eval o = execOp a.eval o)
    (hw : Region.wanted o (yielded ops a'.tmps) = Region.wanted o (yielded ops a.tmps)) : Steady P ops B o v a' w := by
  unfold Steady at *
  rw [he, hw]
  exact hy

theorem Steady.wpOp {i : Nat} {o : Oper} {v : Value} {a : Act} {w : World} (hi : ops[i]? = some o) (hy : Steady P ops B o v a w) {K : Act → World → Prop}
    (hK : ∀ w', E w w' → (isA o = false → w' = w) → K (a.put o.dst v) w') : wpOp P ops (QN Q) i K a w := by
  unfold Go.wpOp
  simp only [hi]
  rcases hy with ⟨hw, hv⟩ | ⟨hw, rfl⟩
  · simp only [hw, if_true]
    refine .inl ?_
    unfold Oper.wp
    rcases hv with ⟨hp, hv⟩ | ⟨hp, hv⟩
    · have h1 := hv w (Below.refl _ _)
      generalize (execOp a.eval o).run P w = r at *
      cases h1 with
      | value h => exact hK _ h (fun hp' => by rw [hp] at hp'; cases hp')
      | enter h c =>
        simp only [Oper.upon]
        refine Calls.mono c (fun e w'' he => ?_)
        obtain ⟨rfl, hb⟩ := he
        exact hK _ (h.trans hb) (fun hp' => by rw [hp] at hp'; cases hp')
    · rw [hv w]
      exact hK _ (E.refl w) (fun _ => rfl)
  · simp only [hw, Bool.false_eq_true, if_false]; exact hK _ (E.refl w) (fun _ => rfl)

theorem wpOp_put' {j : Nat} {oi oj : Oper} {v : Value} (hj : ops[j]? = some oj) (hap : oi.apart ops oj = true)
    (hsi : ∀ cs b, oi.op ≠ .select cs b) (hsj : ∀ cs b, oj.op ≠ .select cs b)
    {K : Act → World → Prop} {a : Act} {w w0 : World} (hy : Steady P ops B oi v a w0) (h : wpOp P ops (QN Q) j K (a.put oi.dst v) w) :
    wpOp P ops (QN Q) j (fun a' w' => Steady P ops B oi v a' w0 ∧ K (a'.put oi.dst v) w') a w := by
  obtain ⟨h1, h2, h3⟩ := Oper.apart_spec hap
  have keep : ∀ (a : Act), Steady P ops B oi v a w0 → ∀ u, Steady P ops B oi v (a.put oj.dst u) w0 := fun a hy u =>
    hy.of_same (execOp_put oi hsi a oj.dst u h3) (wanted_put oi a oj.dst u h3)
  have keepD : ∀ d, Steady P ops B oi v { a with defers := d :: a.defers } w0 := fun d => hy.of_same rfl rfl
  unfold Go.wpOp at *
  simp only [hj] at *
  rw [wanted_put oj a oi.dst v h1] at h
  split
  · rename_i hw
    simp only [hw, if_true] at h
    rcases h with h | ⟨_, _, _, hh⟩
    case inr => exact hh.elim
    refine .inl ?_
    unfold Oper.wp at *
    rw [execOp_put oj hsj a oi.dst v h1] at h
    generalize (execOp a.eval oj).run P w = r at *
    cases r with
    | ok n w' =>
      cases n <;> simp only [Oper.upon] at h ⊢
      case value u => exact ⟨keep a hy u, by rw [← Act.put_comm a v u h2]; exact h⟩
      case skip => exact ⟨keep a hy _, by rw [← Act.put_comm a v undef h2]; exact h⟩
      case defer d =>
        refine ⟨keep _ (keepD d) _, ?_⟩
        rw [← Act.put_comm _ v undef h2, ← Act.put_defers]
        exact h
      case enter f args =>
        refine Calls.mono h fun e w'' he => ?_
        cases e with
        | returned u => exact ⟨keep a hy u, by rw [← Act.put_comm a v u h2]; exact he⟩
        | panicked c => exact he
        | outgrown => exact he
      case row row args => exact Rows.mono h fun u w'' he => ⟨keep a hy u, by rw [← Act.put_comm a v u h2]; exact he⟩
    | halt x w' =>
      cases x <;> simp only [Oper.upon] at h ⊢
      case panic u => exact h
  · rename_i hw
    simp only [hw] at h
    exact ⟨keep a hy _, by rw [← Act.put_comm a v undef h2]; exact h⟩

/-- The order of the operations: those below number m may come in many orders, in worlds that others of them have left ('ph'); those from m on wait for all that look at memory. -/
def wpM (P : Program) (md : Region.Mode) (ops : Array Oper) (Q : Exit → Act → World → Prop) (B m : Nat) : Nat → Bool → Array Bool → Act → World → Prop
  | 0, _, listed, a, w => Region.ready md ops listed = [] ∧ Q .normal a w
  | f + 1, ph, listed, a, w =>
    (Region.ready md ops listed = [] → Q .normal a w) ∧ ∀ j ∈ Region.ready md ops listed, Go.wpOp P ops (QN Q) j (fun a' w'' =>
      if (ph && decide (j < m)) = true then Below B w w'' ∧ ∀ w3, E w'' w3 → wpM P md ops Q B m f ph (listed.setIfInBounds j true) a' w3
      else wpM P md ops Q B m f false (listed.setIfInBounds j true) a' w'') a w

theorem wpAny_of_wpM {m : Nat} : ∀ (f : Nat) (ph : Bool) (listed : Array Bool) (a : Act) (w : World), wpM P md ops Q B m f ph listed a w → wpAny P md ops Q f listed a w
  | 0, _, _, _, _, h => h
  | f + 1, ph, listed, a, w, h => ⟨h.1, fun i hi => wpOp_mono (fun a' w' h' => by
      split at h'
      · exact wpAny_of_wpM f ph _ a' w' (h'.2 w' (E.refl _))
      · exact wpAny_of_wpM f false _ a' w' h') (wpOp_noQ (h.2 i hi))⟩

/-- What must have come up before number t. -/
def before (md : Region.Mode) (ops : Array Oper) (t : Nat) : List Nat :=
  (List.range (t + 1)).foldr (fun j M => if M.contains j then M ++ (((ops[j]?).map fun o => (o.after.toList.filter (Region.binds md)).map (·.on)).getD []) else M) [t]

structure Inv (md : Region.Mode) (ops : Array Oper) (listed : Array Bool) : Prop where
  size : listed.size = ops.size
  closed : ∀ j oj, ops[j]? = some oj → listed.getD j false = true → ∀ e ∈ oj.after, Region.binds md e = true → listed.getD e.on false = true

theorem Inv.set {i : Nat} {listed : Array Bool} (inv : Inv md ops listed) (hi : i ∈ Region.ready md ops listed) : Inv md ops (listed.setIfInBounds i true) := by
  obtain ⟨_, oi, hoi, hall⟩ := mem_ready.1 hi
  refine ⟨by simp [inv.size], fun j oj hj hl e he hb => ?_⟩
  by_cases hij : i = j
  · subst hij
    have : oj = oi := Option.some.inj (hj.symm.trans hoi)
    subst this
    exact getD_set_true (hall e he hb)
  · rw [getD_set_ne false hij] at hl
    exact getD_set_true (inv.closed j oj hj hl e he hb)

theorem before_listed {t : Nat} {listed : Array Bool} (inv : Inv md ops listed) (hr : t ∈ Region.ready md ops listed) : ∀ x ∈ before md ops t, x = t ∨ listed.getD x false = true := by
  obtain ⟨_, ot, hot, hall⟩ := mem_ready.1 hr
  unfold before
  generalize List.range (t + 1) = l
  induction l with
  | nil => intro x hx; simp at hx; exact .inl hx
  | cons j l ih =>
    intro x hx
    simp only [List.foldr_cons] at hx
    generalize l.foldr _ [t] = M at *
    split at hx
    · rename_i hj
      rw [List.mem_append] at hx
      rcases hx with hx | hx
      · exact ih x hx
      · right
        have hjM : j ∈ M := by simpa using hj
        cases hoj : ops[j]? with
        | none => rw [hoj] at hx; simp at hx
        | some oj =>
          rw [hoj] at hx
          simp only [Option.map_some, Option.getD_some, List.mem_map, List.mem_filter] at hx
          obtain ⟨e, ⟨he, hb⟩, rfl⟩ := hx
          have he' : e ∈ oj.after := by simpa using he
          rcases ih j hjM with rfl | hl
          · have : oj = ot := Option.some.inj (hoj.symm.trans hot)
            subst this
            exact hall e he' hb
          · exact inv.closed j oj hoj hl e he' hb
    · exact ih x hx

/-- Each that looks at memory, below number m, has come up before each from m on. -/
def lateB (md : Region.Mode) (ops : Array Oper) (m : Nat) : Bool :=
  (List.range ops.size).all fun t => decide (t < m) || (List.range m).all fun i => ((ops[i]?).map isA).getD false == false || (before md ops t).contains i

theorem late {m i t : Nat} {oi : Oper} {listed : Array Bool} (hB : lateB md ops m = true) (inv : Inv md ops listed) (hi : ops[i]? = some oi) (hA : isA oi = true) (him : i < m) (hun : listed.getD i true = false)
    (ht : t ∈ Region.ready md ops listed) : t < m := by
  rcases Nat.lt_or_ge t m with h | h
  · exact h
  · exfalso
    obtain ⟨_, ot, hot, _⟩ := mem_ready.1 ht
    have htlt : t < ops.size := (Array.getElem?_eq_some_iff.1 hot).1
    have h1 := List.all_eq_true.1 hB t (List.mem_range.2 htlt)
    simp only [Bool.or_eq_true, decide_eq_true_eq] at h1
    rcases h1 with h1 | h1
    · omega
    · have h2 := List.all_eq_true.1 h1 i (List.mem_range.2 him)
      simp only [hi, Option.map_some, Option.getD_some, hA, Bool.or_eq_true] at h2
      rcases h2 with h2 | h2
      · cases h2
      · rcases before_listed inv ht i (by simpa using h2) with h3 | h3
        · omega
        · rw [getD_both hun] at h3; cases h3

theorem free_set {i j : Nat} {oi : Oper} {listed : Array Bool} (hjun : listed.getD j true = false)
    (hfree : ∀ j oj, ops[j]? = some oj → j ≠ i → listed.getD j true = false → (∀ e ∈ oj.after, Region.binds md e = true → e.on ≠ i) → oi.apart ops oj = true) :
    ∀ k ok, ops[k]? = some ok → k ≠ i → (listed.setIfInBounds j true).getD k true = false → (∀ e ∈ ok.after, Region.binds md e = true → e.on ≠ i) → oi.apart ops ok = true := fun k ok hk hki hun hno => by
  refine hfree k ok hk hki ?_ hno
  by_cases hjk : j = k
  · subst hjk; exact hjun
  · rw [getD_set_ne true hjk] at hun; exact hun

/-- One that only reckons, behind one from m on. -/
theorem wpM_firstP2 {m i : Nat} {oi : Oper} {v : Value} (hi : ops[i]? = some oi) (hp : isA oi = false) (hsel : ∀ (j : Nat) (o : Oper) cs b, ops[j]? = some o → o.op ≠ .select cs b) :
    ∀ (f : Nat) (listed : Array Bool) (a : Act) (w : World),
      (∀ j oj, ops[j]? = some oj → j ≠ i → listed.getD j true = false → (∀ e ∈ oj.after, Region.binds md e = true → e.on ≠ i) → oi.apart ops oj = true) →
      i ∈ Region.ready md ops listed → Steady P ops B oi v a w →
      wpM P md ops Q B m f false (listed.setIfInBounds i true) (a.put oi.dst v) w → wpM P md ops Q B m (f + 1) false listed a w := by
  intro f
  induction f with
  | zero =>
    intro listed a w _ hr hy H
    refine ⟨fun h => (by rw [h] at hr; cases hr), fun j hj => ?_⟩
    by_cases hji : j = i
    · subst hji
      refine hy.wpOp hi (fun w'' _ hw => ?_)
      obtain rfl := hw hp
      simpa using H
    · have := ready_mono hj hji
      rw [H.1] at this
      cases this
  | succ f ih =>
    intro listed a w hfree hr hy H
    have hun := (mem_ready.1 hr).1
    refine ⟨fun h => (by rw [h] at hr; cases hr), fun j hj => ?_⟩
    by_cases hji : j = i
    · subst hji
      refine hy.wpOp hi (fun w'' _ hw => ?_)
      obtain rfl := hw hp
      simpa using H
    · have h1 := H.2 j (ready_mono hj hji)
      obtain ⟨hjun, oj, hoj, hall⟩ := mem_ready.1 hj
      have hnot : ∀ e ∈ oj.after, Region.binds md e = true → e.on ≠ i := fun e he hb heq => by
        have h1 := hall e he hb
        rw [heq, getD_both hun] at h1
        cases h1
      have h2 := wpOp_put' hoj (hfree j oj hoj hji hjun hnot) (fun cs b => hsel i oi cs b hi) (fun cs b => hsel j oj cs b hoj) hy h1
      refine wpOp_mono (fun a' w'' h3 => ?_) h2
      simp only [Bool.false_and, Bool.false_eq_true, if_false] at h3 ⊢
      refine ih (listed.setIfInBounds j true) a' w'' (free_set hjun hfree) (ready_mono hr (Ne.symm hji)) (h3.1.any hp w'') ?_
      rw [Array.setIfInBounds_comm _ _ hji]
      exact h3.2

theorem wpM_first {m i : Nat} {oi : Oper} {v : Value} (hi : ops[i]? = some oi) (him : i < m) (hsel : ∀ (j : Nat) (o : Oper) cs b, ops[j]? = some o → o.op ≠ .select cs b) (hlate : lateB md ops m = true) :
    ∀ (f : Nat) (listed : Array Bool) (a : Act) (w : World), Inv md ops listed → B ≤ w.heap.size →
      (∀ j oj, ops[j]? = some oj → j ≠ i → listed.getD j true = false → (∀ e ∈ oj.after, Region.binds md e = true → e.on ≠ i) → oi.apart ops oj = true) →
      i ∈ Region.ready md ops listed → Steady P ops B oi v a w →
      (∀ w', E w w' → wpM P md ops Q B m f true (listed.setIfInBounds i true) (a.put oi.dst v) w') → wpM P md ops Q B m (f + 1) true listed a w := by
  intro f
  induction f with
  | zero =>
    intro listed a w inv hBw _ hr hy H
    refine ⟨fun h => (by rw [h] at hr; cases hr), fun j hj => ?_⟩
    by_cases hji : j = i
    · subst hji
      refine hy.wpOp hi (fun w'' hE _ => ?_)
      simp only [Bool.true_and, decide_eq_true_eq, him, if_true]
      exact ⟨hE.to hBw, fun w3 h3 => H w3 (hE.trans h3)⟩
    · have := ready_mono hj hji
      rw [(H w (E.refl w)).1] at this
      cases this
  | succ f ih =>
    intro listed a w inv hBw hfree hr hy H
    have hun := (mem_ready.1 hr).1
    refine ⟨fun h => (by rw [h] at hr; cases hr), fun j hj => ?_⟩
    by_cases hji : j = i
    · subst hji
      refine hy.wpOp hi (fun w'' hE _ => ?_)
      simp only [Bool.true_and, decide_eq_true_eq, him, if_true]
      exact ⟨hE.to hBw, fun w3 h3 => H w3 (hE.trans h3)⟩
    · have h1 := (H w (E.refl w)).2 j (ready_mono hj hji)
      obtain ⟨hjun, oj, hoj, hall⟩ := mem_ready.1 hj
      have hnot : ∀ e ∈ oj.after, Region.binds md e = true → e.on ≠ i := fun e he hb heq => by
        have h1 := hall e he hb
        rw [heq, getD_both hun] at h1
        cases h1
      have h2 := wpOp_put' hoj (hfree j oj hoj hji hjun hnot) (fun cs b => hsel i oi cs b hi) (fun cs b => hsel j oj cs b hoj) hy h1
      refine wpOp_mono (fun a' w'' h3 => ?_) h2
      obtain ⟨hy', h4⟩ := h3
      by_cases hjm : j < m
      · simp only [Bool.true_and, decide_eq_true_eq, hjm, if_true] at h4 ⊢
        refine ⟨h4.1, fun w3 hE3 => ih (listed.setIfInBounds j true) a' w3 (inv.set hj) (Nat.le_trans hBw (Nat.le_trans h4.1.size hE3.size)) (free_set hjun hfree) (ready_mono hr (Ne.symm hji))
          (hy'.mono (h4.1.trans (hE3.to (Nat.le_trans hBw h4.1.size)))) (fun w4 hE4 => ?_)⟩
        rw [Array.setIfInBounds_comm _ _ hji]
        exact h4.2 w4 (hE3.trans hE4)
      · have hp : isA oi = false := by
          cases hp : isA oi with
          | false => rfl
          | true => exact absurd (late hlate inv hi hp him hun hj) hjm
        simp only [Bool.true_and, decide_eq_true_eq, hjm, if_false] at h4 ⊢
        refine wpM_firstP2 hi hp hsel f (listed.setIfInBounds j true) a' w'' (free_set hjun hfree) (ready_mono hr (Ne.symm hji)) (hy'.any hp w'') ?_
        rw [Array.setIfInBounds_comm _ _ hji]
        exact h4

/-- The head's operations in the order of the text: each steady. -/
def wpHead (P : Program) (ops : Array Oper) (B : Nat) (w : World) (F : Act → Prop) : List Oper → Act → Prop
  | [], a => F a
  | o :: rest, a => ∃ v, Steady P ops B o v a w ∧ wpHead P ops B w F rest (a.put o.dst v)

/-- Operations that make memory, or write what the region itself has made, one behind the other, in whatever worlds from w on. -/
def wpMake (P : Program) (ops : Array Oper) (Q : Exit → Act → World → Prop) (B : Nat) (F : Act → World → Prop) : List Oper → Act → World → Prop
  | [], a, w => ∀ w', E w w' → F a w'
  | o :: rest, a, w => o.guard = none ∧ ∀ w', E w w' → o.wp P a w' (fun a' w'' => Below B w' w'' ∧ wpMake P ops Q B F rest a' w'') (QN Q)

def makeB (md : Region.Mode) (ops : Array Oper) (g : Nat) : Nat → Nat → Array Bool → Bool
  | 0, k, listed => Region.seqB md ops g k listed
  | f + 1, k, listed => decide (Region.ready md ops listed = [k]) && makeB md ops g f (k + 1) (listed.setIfInBounds k true)
def headB (md : Region.Mode) (ops : Array Oper) (g e : Nat) : Nat → Nat → Array Bool → Bool
  | 0, k, listed => makeB md ops g e k listed
  | f + 1, k, listed => (Region.ready md ops listed).contains k && Region.free md ops listed k && headB md ops g e f (k + 1) (listed.setIfInBounds k true)
def fitsB (md : Region.Mode) (ops : Array Oper) (n e : Nat) : Bool :=
  Region.noSelect ops && decide (n + e ≤ ops.size) && lateB md ops (n + e) && headB md ops (ops.size - (n + e)) e n 0 (Array.replicate ops.size false)

theorem wpM_tail {m : Nat} : ∀ (l : List Oper) (k : Nat) (ph : Bool) (listed : Array Bool) (a : Act) (w : World), m ≤ k → (∀ j, l[j]? = ops[k + j]?) →
    Region.seqB md ops l.length k listed = true → wpList P ops (QN Q) l a w → wpM P md ops Q B m l.length ph listed a w
  | [], _, _, _, _, _, _, _, hB, h => ⟨by simpa [Region.seqB] using hB, h⟩
  | o :: l, k, ph, listed, a, w, hmk, hl, hB, h => by
    have h0 : ops[k]? = some o := by simpa using (hl 0).symm
    simp only [List.length_cons, Region.seqB, Bool.and_eq_true, decide_eq_true_eq] at hB
    refine ⟨fun h1 => (by rw [hB.1] at h1; cases h1), fun i hi => ?_⟩
    rw [hB.1] at hi
    have hik : i = k := by simpa using hi
    subst hik
    have hw : wpOp P ops (QN Q) i (wpList P ops (QN Q) l) a w := by unfold wpOp; simp only [h0]; exact h
    refine wpOp_mono (fun a' w' h' => ?_) hw
    have hn : ¬ (ph && decide (i < m)) = true := by simp; intro _; omega
    rw [if_neg hn]
    exact wpM_tail l (i + 1) false _ a' w' (by omega) (fun j => by have := hl (j + 1); simpa [Nat.add_assoc, Nat.add_comm 1 j] using this) hB.2 h'

theorem wpM_make {m g : Nat} {F : Act → World → Prop} (hF : ∀ listed a w, Region.seqB md ops g m listed = true → F a w → wpM P md ops Q B m g true listed a w) :
    ∀ (l : List Oper) (k : Nat) (listed : Array Bool) (a : Act) (w : World), (∀ j, j < l.length → l[j]? = ops[k + j]?) → k + l.length = m →
    makeB md ops g l.length k listed = true → wpMake P ops Q B F l a w →
    ∀ w', E w w' → wpM P md ops Q B m (l.length + g) true listed a w'
  | [], k, listed, a, w, _, hk, hB, h => fun w' hE => by
    have : k = m := by simpa using hk
    subst this
    rw [List.length_nil, Nat.zero_add]
    exact hF listed a w' (by simpa [makeB] using hB) (h w' hE)
  | o :: l, k, listed, a, w, hl, hk, hB, h => fun w' hE => by
    have h0 : ops[k]? = some o := by simpa using (hl 0 (by simp)).symm
    simp only [List.length_cons, makeB, Bool.and_eq_true, decide_eq_true_eq] at hB
    have hkm : k < m := by simp only [List.length_cons] at hk; omega
    rw [show (o :: l).length + g = (l.length + g) + 1 by simp; omega]
    refine ⟨fun h1 => (by rw [hB.1] at h1; cases h1), fun i hi => ?_⟩
    rw [hB.1] at hi
    have hik : i = k := by simpa using hi
    subst hik
    unfold Go.wpOp
    simp only [h0]
    rw [if_pos (by simp [Region.wanted, h.1])]
    refine .inl (Oper.wp_mono (fun a' w'' h' => ?_) (h.2 w' hE))
    simp only [Bool.true_and, decide_eq_true_eq, hkm, if_true]
    exact ⟨h'.1, wpM_make hF l (i + 1) _ a' w'' (fun j hj => by have := hl (j + 1) (by simp; omega); simpa [Nat.add_assoc, Nat.add_comm 1 j] using this) (by simp only [List.length_cons] at hk; omega) hB.2 h'.2⟩

theorem wpM_head {m g e : Nat} (hsel : Region.noSelect ops = true) (hlate : lateB md ops m = true) {w : World} (hBw : B ≤ w.heap.size) {F : Act → Prop}
    (hF : ∀ (k : Nat) (listed : Array Bool) (a : Act), k + e = m → makeB md ops g e k listed = true → F a → ∀ w', E w w' → wpM P md ops Q B m (e + g) true listed a w') :
    ∀ (l : List Oper) (k : Nat) (listed : Array Bool) (a : Act), (∀ j, j < l.length → l[j]? = ops[k + j]?) → k + l.length + e = m → Inv md ops listed →
    headB md ops g e l.length k listed = true → wpHead P ops B w F l a → ∀ w', E w w' → wpM P md ops Q B m (l.length + (e + g)) true listed a w'
  | [], k, listed, a, _, hk, _, hB, h => fun w' hE => by
    simp only [List.length_nil, Nat.zero_add]
    exact hF k listed a (by simpa using hk) (by simpa [headB] using hB) h w' hE
  | o :: l, k, listed, a, hl, hk, inv, hB, h => fun w' hE => by
    have h0 : ops[k]? = some o := by simpa using (hl 0 (by simp)).symm
    simp only [List.length_cons, headB, Bool.and_eq_true] at hB
    obtain ⟨⟨hr, hf⟩, hB'⟩ := hB
    have hkm : k < m := by simp only [List.length_cons] at hk; omega
    have hr' : k ∈ Region.ready md ops listed := by simpa using hr
    obtain ⟨v, hy, hK⟩ := h
    rw [show (o :: l).length + (e + g) = (l.length + (e + g)) + 1 by simp; omega]
    exact wpM_first h0 hkm (Region.noSelect_spec hsel) hlate (l.length + (e + g)) listed a w' inv (Nat.le_trans hBw hE.size) (Region.free_spec h0 hf) hr' (hy.mono (hE.to hBw))
      (fun w'' hE' => wpM_head hsel hlate hBw hF l (k + 1) _ _ (fun j hj => by have := hl (j + 1) (by simp; omega); simpa [Nat.add_assoc, Nat.add_comm 1 j] using this) (by simp only [List.length_cons] at hk; omega) (inv.set hr') hB' hK w'' (hE.trans hE'))

/-- n operations that are steady, e that make memory, the others in one order. -/
theorem wp_region_E {id : Nat} {a : Act} {w : World} {l : List Oper} (n e : Nat) (hm : P.follows .mixedOrders = true) (hB : fitsB .any l.toArray n e = true)
    (h : wpHead P l.toArray w.heap.size w.drew (fun a' => wpMake P l.toArray Q w.heap.size (fun a'' w'' => wpList P l.toArray (QN Q) (l.drop (n + e)) a'' w'') ((l.drop n).take e) a' w.drew) (l.take n) a) : (Code.region id l.toArray true).wp P Q a w := by
  simp only [fitsB, Bool.and_eq_true, decide_eq_true_eq] at hB
  obtain ⟨⟨⟨hsel, hn⟩, hlate⟩, hlex⟩ := hB
  have hn' : n + e ≤ l.length := by simpa using hn
  have htl : (l.take n).length = n := by simp; omega
  have hml : ((l.drop n).take e).length = e := by simp; omega
  have hdl : (l.drop (n + e)).length = l.toArray.size - (n + e) := by simp
  have inv0 : Inv .any l.toArray (Array.replicate l.toArray.size false) := ⟨by simp, fun j oj _ hl => (by rw [getD_replicate_false] at hl; cases hl)⟩
  generalize hB0 : w.heap.size = B0 at *
  have H := wpM_head (P := P) (md := .any) (Q := Q) (B := B0) (m := n + e) (g := l.toArray.size - (n + e)) (e := e) hsel hlate (w := w.drew) (by show B0 ≤ w.heap.size; omega)
    (hF := fun k listed a hk hB h w' hE => by
      have hkn : k = n := by omega
      subst hkn
      have := wpM_make (P := P) (md := .any) (Q := Q) (B := B0) (m := k + e) (g := l.toArray.size - (k + e))
        (F := fun a'' w'' => wpList P l.toArray (QN Q) (l.drop (k + e)) a'' w'')
        (fun listed a w hs hF => by
          have := wpM_tail (P := P) (md := .any) (Q := Q) (B := B0) (m := k + e) (l.drop (k + e)) (k + e) true listed a w (Nat.le_refl _) (fun j => by simp [List.getElem?_drop]) (by rw [hdl]; exact hs) hF
          rw [hdl] at this
          exact this)
        ((l.drop k).take e) k listed a w.drew (fun j hj => by
        have hj' : j < e := by rw [hml] at hj; exact hj
        simp [hj', List.getElem?_drop]) (by rw [hml]) (by rw [hml]; exact hB) h w' hE
      rw [hml] at this
      exact this)
    (l.take n) 0 _ a (fun j hj => by
      have hj' : j < n := by rw [htl] at hj; exact hj
      simp [hj']) (by rw [htl]; omega) inv0 (by rw [htl]; exact hlex) h w.drew (E.refl _)
  refine wp_region_any hm ?_
  have := wpAny_of_wpM _ _ _ _ _ H
  rw [htl, show n + (e + (l.toArray.size - (n + e))) = l.toArray.size by omega] at this
  exact this

/-! ### the steps of a walk -/
inductive Gives (v : Value) (w : World) : Result Next → Prop
  | mk : Gives v w (.ok (.value v) w)
theorem Gives.eq {v : Value} {w : World} {r : Result Next} (h : Gives v w r) : r = .ok (.value v) w := by cases h; rfl
theorem head_cps {w : World} {F : Act → Prop} {o : Oper} {rest : List Oper} {a : Act} (hg : o.guard = none) (hA : isA o = true)
    (h : ∀ K : Act → Prop, (∀ a, wpHead P ops B w F rest a → K a) → ∃ v, (∀ w', Below B w w' → Comes1 P v w' ((execOp a.eval o).run P w')) ∧ K (a.put o.dst v)) : wpHead P ops B w F (o :: rest) a := by
  obtain ⟨v, h1, h2⟩ := h _ (fun _ h => h)
  exact ⟨v, .inl ⟨by simp [Region.wanted, hg], .inl ⟨hA, h1⟩⟩, h2⟩
theorem head_pure {w : World} {F : Act → Prop} {o : Oper} {rest : List Oper} {a : Act} (hg : o.guard = none) (hA : isA o = false)
    (h : ∀ K : Act → Prop, (∀ a, wpHead P ops B w F rest a → K a) → ∃ v, (∀ w', Gives v w' ((execOp a.eval o).run P w')) ∧ K (a.put o.dst v)) : wpHead P ops B w F (o :: rest) a := by
  obtain ⟨v, h1, h2⟩ := h _ (fun _ h => h)
  exact ⟨v, .inl ⟨by simp [Region.wanted, hg], .inr ⟨hA, fun w' => (h1 w').eq⟩⟩, h2⟩
/-- An operation under a guard that holds; one that doesn't. -/
theorem head_cps_on {w : World} {F : Act → Prop} {o : Oper} {rest : List Oper} {a : Act} (hg : Region.wanted o (yielded ops a.tmps) = true) (hA : isA o = true)
    (h : ∀ K : Act → Prop, (∀ a, wpHead P ops B w F rest a → K a) → ∃ v, (∀ w', Below B w w' → Comes1 P v w' ((execOp a.eval o).run P w')) ∧ K (a.put o.dst v)) : wpHead P ops B w F (o :: rest) a := by
  obtain ⟨v, h1, h2⟩ := h _ (fun _ h => h)
  exact ⟨v, .inl ⟨hg, .inl ⟨hA, h1⟩⟩, h2⟩
theorem head_pure_on {w : World} {F : Act → Prop} {o : Oper} {rest : List Oper} {a : Act} (hg : Region.wanted o (yielded ops a.tmps) = true) (hA : isA o = false)
    (h : ∀ K : Act → Prop, (∀ a, wpHead P ops B w F rest a → K a) → ∃ v, (∀ w', Gives v w' ((execOp a.eval o).run P w')) ∧ K (a.put o.dst v)) : wpHead P ops B w F (o :: rest) a := by
  obtain ⟨v, h1, h2⟩ := h _ (fun _ h => h)
  exact ⟨v, .inl ⟨hg, .inr ⟨hA, fun w' => (h1 w').eq⟩⟩, h2⟩
theorem head_off {w : World} {F : Act → Prop} {o : Oper} {rest : List Oper} {a : Act} (hg : Region.wanted o (yielded ops a.tmps) = false)
    (h : ∀ K : Act → Prop, (∀ a, wpHead P ops B w F rest a → K a) → K (a.put o.dst undef)) : wpHead P ops B w F (o :: rest) a :=
  ⟨undef, .inr ⟨hg, rfl⟩, h _ (fun _ h => h)⟩
theorem head_nil {w : World} {F : Act → Prop} {a : Act} (h : F a) : wpHead P ops B w F [] a := h
theorem make_cps {F : Act → World → Prop} {o : Oper} {rest : List Oper} {a : Act} {w : World} (hg : o.guard = none)
    (h : ∀ w', E w w' → ∀ K : Act → World → Prop, (∀ a' w'', Below B w' w'' → wpMake P ops Q B F rest a' w'' → K a' w'') → o.wp P a w' K (QN Q)) : wpMake P ops Q B F (o :: rest) a w :=
  ⟨hg, fun w' hE => h w' hE _ (fun _ _ h1 h2 => ⟨h1, h2⟩)⟩
theorem make_nil {F : Act → World → Prop} {a : Act} {w : World} (h : ∀ w', E w w' → F a w') : wpMake P ops Q B F [] a w := h
theorem qn {a : Act} {w : World} (h : Q .normal a w) : QN Q .normal a w := h
theorem tail_nil {a : Act} {w : World} (h : Q .normal a w) : wpList P ops (QN Q) [] a w := h
end
end Go.Proofs.YtemfhipofgafiaaGreatDoor.Reg
