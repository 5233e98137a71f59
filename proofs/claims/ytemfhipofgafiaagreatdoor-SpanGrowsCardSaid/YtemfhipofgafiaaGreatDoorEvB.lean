/- THE RUN OF OPERATIONS, REGIONS, CODE AND CALLS. -/
import Derived.Test.YtemfhipofgafiaaGreatDoorEv
import Derived.Test.YtemfhipofgafiaaGreatDoorRegP
import Derived.LoopN
set_option linter.unusedVariables false
set_option linter.unusedSimpArgs false
namespace Go.Proofs.YtemfhipofgafiaaGreatDoor.Ev
open Go Go.RowKit

abbrev Callee (ρ : Type) := Nat → List Value → List Value → St → (Value → Value → St → ρ) → ρ
abbrev HCallee (ρ : Type) := Nat → List Value → List Value → St → (Value → St → ρ) → ρ

section
variable {ρ : Type} (M : Mode ρ) (P : Program) (ra ro : Nat) (X : Nat → List Value → Option Value)

def evOp (C : Callee ρ) (o : Oper) (ts ts' : List Value) (st : St) (K : Value → Value → St → ρ) : ρ :=
  match callOf o with
  | some (f, args) => match evalL ts f, evalL ts' f with
    | .func (.func g) ⟨first⟩ ⟨cap⟩, .func _ ⟨first'⟩ ⟨cap'⟩ =>
      forceL (first ++ args.toList.map (evalL ts) ++ cap) fun a => forceL (first' ++ args.toList.map (evalL ts') ++ cap') fun a' =>
        match X g a with
        | some v => forceV M.sym v fun v => K v v st
        | none => C g a a' st K
    | _, _ => M.no
  | none => match appOf o with
    | some (s, x, t, u) => evAppend M P ra ro t u (evalL ts s) (evalL ts' s) (evalL ts x) (evalL ts' x) st K
    | none => semL M P ro (execOp (evalL ts) o) (execOp (evalL ts') o) st fun n n' st => match n, n' with
      | .value v, .value v' => forceV M.sym v fun v => forceV M.sym v' fun v' => K v v' st
      | .skip, .skip => K undef undef st
      | _, _ => M.no

def evOps (C : Callee ρ) (ops : Array Oper) : List Oper → List Value → List Value → St → (List Value → List Value → St → ρ) → ρ
  | [], ts, ts', st, K => K ts ts' st
  | o :: rest, ts, ts', st, K => match Region.wanted o (yielded ops ⟨ts⟩) with
    | true => evOp M P ra ro X C o ts ts' st fun v v' st => forceL (putL ts o.dst v) fun ts => forceL (putL ts' o.dst v') fun ts' => evOps C ops rest ts ts' st K
    | false => forceL (putL ts o.dst undef) fun ts => forceL (putL ts' o.dst undef) fun ts' => evOps C ops rest ts ts' st K

/-- Those that may come in any order: none writes, or makes what it hands on. -/
def evHead (C : HCallee ρ) (nv : Bool) (ops : Array Oper) : List Nat → List Value → List Value → St → (List Value → List Value → St → ρ) → ρ
  | [], ts, ts', st, K => K ts ts' st
  | i :: rest, ts, ts', st, K => match ops[i]? with
    | none => M.no
    | some o => match Region.wanted o (yielded ops ⟨ts⟩) with
      | false => forceL (putL ts o.dst undef) fun ts => forceL (putL ts' o.dst undef) fun ts' => evHead C nv ops rest ts ts' st K
      | true => match callOf o with
        | some (f, args) => match evalL ts f, evalL ts' f with
          | .func (.func g) ⟨first⟩ ⟨cap⟩, .func _ ⟨first'⟩ ⟨cap'⟩ =>
            forceL (first ++ args.toList.map (evalL ts) ++ cap) fun a => forceL (first' ++ args.toList.map (evalL ts') ++ cap') fun a' =>
              match X g a with
              | some v => forceV M.sym v fun v => forceL (putL ts o.dst v) fun ts => forceL (putL ts' o.dst v) fun ts' => evHead C nv ops rest ts ts' st K
              | none => match nv with
                | true => M.no
                | false => C g a a' st fun v st => forceL (putL ts o.dst v) fun ts => forceL (putL ts' o.dst v) fun ts' => evHead C nv ops rest ts ts' st K
          | _, _ => M.no
        | none => match appOf o with
          | some _ => M.no
          | none => semR M P nv (match Reg.isA o with | true => st.heap | false => []) (execOp (evalL ts) o) (execOp (evalL ts') o) fun n n' => match n, n' with
            | .value v, .value v' => forceV M.sym v fun v => forceV M.sym v' fun v' => forceL (putL ts o.dst v) fun ts => forceL (putL ts' o.dst v') fun ts' => evHead C nv ops rest ts ts' st K
            | _, _ => M.no

def allOf (f : Nat → ρ) : List Nat → ρ
  | [] => M.no
  | [j] => f j
  | j :: js => M.both (f j) (allOf f js)

/-- The others, in all orders that there are: C2, from ra2 and ro2 on: those that come while one of the head may still come. -/
def evRest (ra2 ro2 : Nat) (C C2 : Callee ρ) (I : Nat → Bool) (ops : Array Oper) : Nat → Bool → Array Bool → List Value → List Value → St → (List Value → List Value → St → ρ) → ρ
  | 0, _, listed, ts, ts', st, K => match Region.ready .any ops listed with
    | [] => K ts ts' st
    | _ => M.no
  | f + 1, ph, listed, ts, ts', st, K => match Region.ready .any ops listed with
    | [] => K ts ts' st
    | j :: js => allOf M (fun i => match ops[i]? with
      | none => M.no
      | some o => match Region.wanted o (yielded ops ⟨ts⟩) with
        | false => forceL (putL ts o.dst undef) fun ts => forceL (putL ts' o.dst undef) fun ts' => evRest ra2 ro2 C C2 I ops f (ph && I i) (listed.setIfInBounds i true) ts ts' st K
        | true => match ph && I i with
          | true => evOp M P ra2 ro2 X C2 o ts ts' st fun v v' st => forceL (putL ts o.dst v) fun ts => forceL (putL ts' o.dst v') fun ts' => evRest ra2 ro2 C C2 I ops f true (listed.setIfInBounds i true) ts ts' st K
          | false => evOp M P ra ro X C o ts ts' st fun v v' st => forceL (putL ts o.dst v) fun ts => forceL (putL ts' o.dst v') fun ts' => evRest ra2 ro2 C C2 I ops f false (listed.setIfInBounds i true) ts ts' st K) (j :: js)

/-- The others where there is one order alone. -/
def evSeq (ra2 ro2 : Nat) (C C2 : Callee ρ) (I : Nat → Bool) (ops : Array Oper) : List Nat → Bool → List Value → List Value → St → (List Value → List Value → St → ρ) → ρ
  | [], _, ts, ts', st, K => K ts ts' st
  | i :: l, ph, ts, ts', st, K => match ops[i]? with
    | none => M.no
    | some o => match Region.wanted o (yielded ops ⟨ts⟩) with
      | false => forceL (putL ts o.dst undef) fun ts => forceL (putL ts' o.dst undef) fun ts' => evSeq ra2 ro2 C C2 I ops l (ph && I i) ts ts' st K
      | true => match ph && I i with
        | true => evOp M P ra2 ro2 X C2 o ts ts' st fun v v' st => forceL (putL ts o.dst v) fun ts => forceL (putL ts' o.dst v') fun ts' => evSeq ra2 ro2 C C2 I ops l true ts ts' st K
        | false => evOp M P ra ro X C o ts ts' st fun v v' st => forceL (putL ts o.dst v) fun ts => forceL (putL ts' o.dst v') fun ts' => evSeq ra2 ro2 C C2 I ops l false ts ts' st K
end

/-- One order alone. -/
def seqOk (ops : Array Oper) : List Nat → Array Bool → Bool
  | [], listed => decide (Region.ready .any ops listed = [])
  | k :: l, listed => decide (Region.ready .any ops listed = [k]) && seqOk ops l (listed.setIfInBounds k true)
/-- Where there is one order, all orders are that one. -/
theorem rest_of_seq {ρ : Type} (M : Mode ρ) (P : Program) (ra ro : Nat) (X : Nat → List Value → Option Value) (ra2 ro2 : Nat) (C C2 : Callee ρ) (I : Nat → Bool) (ops : Array Oper) : ∀ (l : List Nat) (ph : Bool) (listed : Array Bool) (ts ts' : List Value) (st : St) (K : List Value → List Value → St → ρ),
    seqOk ops l listed = true → evRest M P ra ro X ra2 ro2 C C2 I ops l.length ph listed ts ts' st K = evSeq M P ra ro X ra2 ro2 C C2 I ops l ph ts ts' st K
  | [], ph, listed, ts, ts', st, K, h => by
    simp only [seqOk, decide_eq_true_eq] at h
    simp only [List.length_nil, evRest, evSeq, h]
  | k :: l, ph, listed, ts, ts', st, K, h => by
    simp only [seqOk, Bool.and_eq_true, decide_eq_true_eq] at h
    simp only [List.length_cons, evRest, evSeq, h.1, allOf]
    have ih := fun ph ts ts' st K => rest_of_seq M P ra ro X ra2 ro2 C C2 I ops l ph (listed.setIfInBounds k true) ts ts' st K h.2
    simp only [ih]

/-- What a call of a function comes to. -/
def Rets (P : Program) (B ra ro : Nat) (h : List Blk) (w : World) (K : Value → Value → St → Res) (e : Ending) (w' : World) : Prop :=
  ∃ v v' N' h', e = .returned v ∧ Rep B ra h' w' ∧ Ext B ra ro h w h' w' ∧ B ≤ w'.heap.size ∧ ro ≤ h'.length ∧ ∀ sup : Sup N', (K v v' ⟨h', sup.1⟩).Good
def CalleeOk (P : Program) (B ra ro : Nat) (C : Callee Res) : Prop :=
  ∀ (g : Nat) (a a' : List Value) (N : Nat) (h : List Blk) (w : World) (K : Value → Value → St → Res), Rep B ra h w → B ≤ w.heap.size → ro ≤ h.length → (∀ sup : Sup N, (C g a a' ⟨h, sup.1⟩ K).Good) →
    (∀ w, (callFunc g ⟨a⟩).run P w = .ok (.enter g ⟨a⟩) w) ∧ Calls P g ⟨a⟩ w (Rets P B ra ro h w K)
def Apart (h : List Blk) : Prop := ∀ (i j : Nat) (b c : Blk), h[i]? = some b → h[j]? = some c → i ≠ j → b.name ≠ c.name
def HeadOk (P : Program) (C : HCallee Res) : Prop :=
  ∀ (g : Nat) (a a' : List Value) (N : Nat) (h : List Blk) (w : World) (K : Value → St → Res), RepV false h w → Apart h → (∀ sup : Sup N, (C g a a' ⟨h, sup.1⟩ K).Good) →
    (∀ w, (callFunc g ⟨a⟩).run P w = .ok (.enter g ⟨a⟩) w) ∧ ∃ v, (∀ w, RepV false h w → Calls P g ⟨a⟩ w (fun e w' => e = .returned v ∧ Below w.heap.size w w')) ∧ ∃ N', ∀ sup : Sup N', (K v ⟨h, sup.1⟩).Good
def XOk (P : Program) (X : Nat → List Value → Option Value) : Prop := ∀ g a v, X g a = some v → ∀ w, (callFunc g ⟨a⟩).run P w = .ok (.value v) w

theorem run_call {P : Program} {ts : List Value} {o : Oper} {f : Operand} {args : Array Operand} (h : callOf o = some (f, args)) {g : Nat} {first cap : List Value}
    (hf : evalL ts f = .func (.func g) ⟨first⟩ ⟨cap⟩) (w : World) :
    (execOp (evalL ts) o).run P w = (callFunc g ⟨first ++ args.toList.map (evalL ts) ++ cap⟩).run P w := by
  obtain ⟨ty, ho⟩ := callOf_spec h
  have e : (({ toList := first } : Array Value) ++ args.map (evalL ts) ++ ({ toList := cap } : Array Value)) = ⟨first ++ args.toList.map (evalL ts) ++ cap⟩ := by
    apply Array.toList_inj.1
    simp
  unfold execOp
  rw [ho]
  simp only [resolve, hf, Deferred.ofValue, invoke, pure, bind, Sem.bind, e]

theorem run_app {P : Program} {ts : List Value} {o : Oper} {s x : Operand} {t u : TypeId} (h : appOf o = some (s, x, t, u)) (w : World) :
    (execOp (evalL ts) o).run P w = match (Builtin.append_ #[t, u] o.type #[evalL ts s, evalL ts x]).run P w with
      | .ok v w' => .ok (.value v) w'
      | .halt x w' => .halt x w' := by
  have ho := appOf_spec h
  unfold execOp
  rw [ho]
  simp only [resolve, invoke, builtin, Sem.run_bind, Sem.run_pure, Result.andThen_ok, List.map_toArray, List.map_cons, List.map_nil]
  generalize (Builtin.append_ #[t, u] o.type #[evalL ts s, evalL ts x]).run P w = r
  cases r <;> rfl

section
variable {P : Program} {B ra ro : Nat} {X : Nat → List Value → Option Value}

theorem evOp_sound (hra : ra ≤ ro) {C : Callee Res} (hC : CalleeOk P B ra ro C) (hX : XOk P X) {o : Oper} {ts ts' : List Value} {h : List Blk} {w : World} {K : Value → Value → St → Res} {N0 : Nat} (hr : Rep B ra h w) (hB : B ≤ w.heap.size) (hl : ro ≤ h.length)
    (hg : ∀ sup : Sup N0, (evOp lock P ra ro X C o ts ts' ⟨h, sup.1⟩ K).Good) {N : Act → World → Prop} {Q : Exit → Act → World → Prop}
    (hN : ∀ v v' N' h' w', Rep B ra h' w' → Ext B ra ro h w h' w' → B ≤ w'.heap.size → ro ≤ h'.length → (∀ sup : Sup N', (K v v' ⟨h', sup.1⟩).Good) → N ⟨⟨putL ts o.dst v⟩, []⟩ w') :
    o.wp P ⟨⟨ts⟩, []⟩ w N Q := by
  have no : ∀ {p : Prop}, (lock.no : Res).Good → p := fun h => h.elim
  unfold Oper.wp
  rw [evalL_eq]
  simp only [evOp] at hg
  split at hg
  · rename_i f args hc
    split at hg
    case h_2 => exact no (hg (.some _))
    rename_i g first cap _ first' cap' hf hf'
    rw [run_call hc hf]
    simp only [forceL_eq, forceV_eq] at hg
    split at hg
    · rename_i v hv
      rw [hX _ _ _ hv]
      simp only [Oper.upon, putL_eq]
      exact hN v v _ h w hr (Ext.refl _ _ _ _ _) hB hl hg
    · obtain ⟨h1, h2⟩ := hC _ _ _ _ h w _ hr hB hl hg
      rw [h1]
      simp only [Oper.upon]
      refine Calls.mono h2 (fun e w' he => ?_)
      obtain ⟨v, v', N', h', rfl, k1, k2, k3, k4, k5⟩ := he
      simp only [putL_eq]
      exact hN v v' _ h' w' k1 k2 k3 k4 k5
  · rename_i hc
    split at hg
    · rename_i s x t u ha
      rw [run_app ha]
      obtain ⟨v, v', N', h', w', h1, k1, k2, k3, k4, k5⟩ := evAppend_sound hra (ty := o.type) hr hB hl hg
      rw [h1]
      simp only [Oper.upon, putL_eq]
      exact hN v v' _ h' w' k1 k2 k3 k4 k5
    · obtain ⟨n, n', N', h', w', h1, k1, k2, k3, k4, k5⟩ := semL_sound hra _ _ _ _ h w hr hB hl hg
      rw [h1]
      split at k5
      · rename_i v v'
        simp only [forceV_eq] at k5
        simp only [Oper.upon, putL_eq]
        exact hN v v' _ h' w' k1 k2 k3 k4 k5
      · simp only [Oper.upon, putL_eq]
        exact hN _ _ _ h' w' k1 k2 k3 k4 k5
      · exact no (k5 (.some _))

theorem evOps_sound (hra : ra ≤ ro) {C : Callee Res} (hC : CalleeOk P B ra ro C) (hX : XOk P X) {ops : Array Oper} {K : List Value → List Value → St → Res} {Q : Exit → Act → World → Prop} : ∀ (l : List Oper) (ts ts' : List Value) (N : Nat) (h : List Blk) (w : World), Rep B ra h w → B ≤ w.heap.size → ro ≤ h.length →
    (∀ sup : Sup N, (evOps lock P ra ro X C ops l ts ts' ⟨h, sup.1⟩ K).Good) →
    (∀ ts ts' N' h' w', Rep B ra h' w' → Ext B ra ro h w h' w' → B ≤ w'.heap.size → ro ≤ h'.length → (∀ sup : Sup N', (K ts ts' ⟨h', sup.1⟩).Good) → Q .normal ⟨⟨ts⟩, []⟩ w') →
    wpList P ops Q l ⟨⟨ts⟩, []⟩ w
  | [], ts, ts', N, h, w, hr, hB, hl, hg, hQ => hQ ts ts' N h w hr (Ext.refl _ _ _ _ _) hB hl hg
  | o :: rest, ts, ts', N, h, w, hr, hB, hl, hg, hQ => by
    unfold wpList
    simp only [evOps] at hg
    split at hg
    · rename_i hw
      rw [if_pos hw]
      refine .inl (evOp_sound hra hC hX hr hB hl hg (fun v v' N' h' w' k1 k2 k3 k4 k5 => ?_))
      simp only [forceL_eq] at k5
      exact evOps_sound hra hC hX rest _ _ _ h' w' k1 k3 k4 k5 (fun ts ts' N'' h'' w'' j1 j2 j3 j4 j5 => hQ ts ts' _ h'' w'' j1 (k2.trans j2) j3 j4 j5)
    · rename_i hw
      rw [if_neg (by rw [hw]; simp), putL_eq]
      simp only [forceL_eq] at hg
      exact evOps_sound hra hC hX rest _ _ _ h w hr hB hl hg hQ

theorem evHead_sound {R : World → World → Prop} {C : HCallee Res} {nv : Bool} (hC : HeadOk P C) (hX : XOk P X) {ops : Array Oper} {K : List Value → List Value → St → Res} {h : List Blk} {w : World} (hr : ∀ w', R w w' → RepV nv h w') (hrw : RepV nv h w) (hap : Apart h) {F : Act → Prop} : ∀ (l : List Nat) (ts ts' : List Value) (N : Nat),
    (∀ sup : Sup N, (evHead lock P X C nv ops l ts ts' ⟨h, sup.1⟩ K).Good) →
    (∀ ts ts' N', (∀ sup : Sup N', (K ts ts' ⟨h, sup.1⟩).Good) → F ⟨⟨ts⟩, []⟩) →
    RegP.wpHead P ops R w F l ⟨⟨ts⟩, []⟩
  | [], ts, ts', N, hg, hQ => hQ ts ts' N hg
  | i :: rest, ts, ts', N, hg, hQ => by
    have no : ∀ {p : Prop}, (lock.no : Res).Good → p := fun h => h.elim
    unfold RegP.wpHead
    simp only [evHead] at hg
    split at hg
    case h_1 => exact no (hg (.some _))
    rename_i o ho
    split at hg
    · rename_i hw
      refine ⟨o, undef, ho, .inr ⟨hw, rfl⟩, ?_⟩
      rw [putL_eq]
      simp only [forceL_eq] at hg
      exact evHead_sound hC hX hr hrw hap rest _ _ _ hg hQ
    · rename_i hw
      split at hg
      · rename_i f args hc
        have hA : Reg.isA o = true := by
          obtain ⟨ty, ho⟩ := callOf_spec hc
          simp [Reg.isA, ho]
        split at hg
        case h_2 => exact no (hg (.some _))
        rename_i g first cap _ first' cap' hf hf'
        simp only [forceL_eq, forceV_eq] at hg
        split at hg
        · rename_i v hv
          refine ⟨o, v, ho, .inl ⟨hw, .inl ⟨hA, fun w' hb => ?_⟩⟩, ?_⟩
          · rw [evalL_eq, run_call hc hf, hX _ _ _ hv]
            exact .value (Reg.E.refl _)
          · rw [putL_eq]
            exact evHead_sound hC hX hr hrw hap rest _ _ _ hg hQ
        · split at hg
          · exact no (hg (.some _))
          · obtain ⟨h1, v, h2, N', h3⟩ := hC _ _ _ _ h w _ hrw hap hg
            refine ⟨o, v, ho, .inl ⟨hw, .inl ⟨hA, fun w' hb => ?_⟩⟩, ?_⟩
            · rw [evalL_eq, run_call hc hf, h1]
              exact .enter (Reg.E.refl _) (h2 w' (hr w' hb))
            · rw [putL_eq]
              exact evHead_sound hC hX hr hrw hap rest _ _ _ h3 hQ
      · split at hg
        · exact no (hg (.some _))
        · obtain ⟨n, n', hrun, hk⟩ := semR_sound (Sup.some N) nv _ (fun sup n n' => match n, n' with
            | Next.value v, Next.value v' => forceV lock.sym v fun v => forceV lock.sym v' fun v' => forceL (putL ts o.dst v) fun ts => forceL (putL ts' o.dst v') fun ts' => evHead lock P X C nv ops rest ts ts' ⟨h, sup.1⟩ K
            | _, _ => lock.no) _ _ hg
          split at hk
          case h_2 => exact no (hk (.some _))
          rename_i v v'
          simp only [forceV_eq, forceL_eq] at hk
          refine ⟨o, v, ho, .inl ⟨hw, ?_⟩, ?_⟩
          · cases hA : Reg.isA o
            · rw [hA] at hrun
              refine .inr ⟨rfl, fun w' => ?_⟩
              rw [evalL_eq]
              exact hrun w' (fun i b hi => by simp at hi)
            · rw [hA] at hrun
              refine .inl ⟨rfl, fun w' hb => ?_⟩
              rw [evalL_eq, hrun w' (hr w' hb)]
              exact .value (Reg.E.refl _)
          · rw [putL_eq]
            exact evHead_sound hC hX hr hrw hap rest _ _ _ hk hQ
end

/-- What the head may look at stays. -/
def Keep (nv : Bool) (h : List Blk) (w w' : World) : Prop :=
  w.heap.size ≤ w'.heap.size ∧ ∀ (i : Nat) (b : Blk), h[i]? = some b → (nv && b.vec.isSome) = false → b.name < w.heap.size → w'.heap[b.name]? = w.heap[b.name]?
theorem keep_prot (nv : Bool) (h : List Blk) : RegP.Prot (Keep nv h) :=
  ⟨fun w => ⟨Nat.le_refl _, fun _ _ _ _ _ => rfl⟩, fun a b => ⟨Nat.le_trans a.1 b.1, fun i x hi hv hl => (b.2 i x hi hv (Nat.lt_of_lt_of_le hl a.1)).trans (a.2 i x hi hv hl)⟩, fun e => ⟨e.size, fun _ _ _ _ hl => e.block _ hl⟩⟩
theorem Keep.rep {nv : Bool} {h : List Blk} {w w' : World} (hr : RepV nv h w) (hk : Keep nv h w w') : RepV nv h w' := fun i b hi hv => by
  obtain ⟨q, h1, h2⟩ := hr i b hi hv
  exact ⟨q, (hk.2 i b hi hv (RepB.lt (hr i b hi hv))).trans h1, h2⟩

theorem allOf_good {f : Nat → Res} : ∀ {l : List Nat}, (allOf lock f l).Good → ∀ j ∈ l, (f j).Good
  | [], h, j, hj => by simp at hj
  | [k], h, j, hj => by
    simp only [List.mem_singleton] at hj
    subst hj
    exact h
  | k :: k2 :: l, h, j, hj => by
    obtain ⟨h1, h2⟩ := h
    rcases List.mem_cons.1 hj with rfl | hj
    · exact h1
    · exact allOf_good (l := k2 :: l) h2 j hj

theorem evRest_sound {P : Program} {B ra ro ra2 ro2 : Nat} {X : Nat → List Value → Option Value} (hra : ra ≤ ro) (hra2 : ra2 ≤ ro2) (h12 : ra ≤ ra2) (hro2 : ro ≤ ro2) {C C2 : Callee Res} (hC : CalleeOk P B ra ro C) (hC2 : CalleeOk P B ra2 ro2 C2) (hX : XOk P X) {I : Nat → Bool} {ops : Array Oper} {nv : Bool} {h0 : List Blk}
    (hl0 : ro2 = h0.length) (hnv : nv = false → ra2 = ro2) (hnv2 : nv = true → ra2 = ra)
    {K : List Value → List Value → St → Res} {Q : Exit → Act → World → Prop} :
    ∀ (f : Nat) (ph : Bool) (listed : Array Bool) (ts ts' : List Value) (N : Nat) (h : List Blk) (w : World), Rep B ra h w → B ≤ w.heap.size → ro ≤ h.length → (ph = true → ro2 ≤ h.length) →
    (ph = true → ∀ (i : Nat) (b : Blk), h0[i]? = some b → (nv && b.vec.isSome) = false → h[i]? = some b) →
    (∀ sup : Sup N, (evRest lock P ra ro X ra2 ro2 C C2 I ops f ph listed ts ts' ⟨h, sup.1⟩ K).Good) →
    (∀ ts ts' N' h' w', Rep B ra h' w' → Ext B ra ro h w h' w' → B ≤ w'.heap.size → ro ≤ h'.length → (∀ sup : Sup N', (K ts ts' ⟨h', sup.1⟩).Good) → Q .normal ⟨⟨ts⟩, []⟩ w') →
    RegP.wpM P .any ops Q (Keep nv h0) I f ph listed ⟨⟨ts⟩, []⟩ w
  | 0, ph, listed, ts, ts', N, h, w, hr, hB, hl, hl2, hk, hg, hQ => by
    have no : ∀ {p : Prop}, (lock.no : Res).Good → p := fun h => h.elim
    simp only [evRest] at hg
    split at hg
    case h_2 => exact no (hg (.some _))
    rename_i hrd
    exact ⟨hrd, hQ ts ts' _ h w hr (Ext.refl _ _ _ _ _) hB hl hg⟩
  | f + 1, ph, listed, ts, ts', N, h, w, hr, hB, hl, hl2, hk, hg, hQ => by
    have no : ∀ {p : Prop}, (lock.no : Res).Good → p := fun h => h.elim
    simp only [evRest] at hg
    split at hg
    · rename_i hrd
      refine ⟨fun _ => hQ ts ts' _ h w hr (Ext.refl _ _ _ _ _) hB hl hg, fun j hj => ?_⟩
      rw [hrd] at hj
      cases hj
    · rename_i j0 js hrd
      refine ⟨fun h1 => (by rw [hrd] at h1; cases h1), fun j hj => ?_⟩
      rw [hrd] at hj
      have hgj := fun sup => allOf_good (hg sup) j hj
      clear hg
      unfold Go.wpOp
      split at hgj
      case h_1 => exact no (hgj (.some _))
      rename_i o ho
      simp only [ho]
      split at hgj
      · rename_i hw
        rw [if_neg (by rw [hw]; simp), putL_eq]
        simp only [forceL_eq] at hgj
        split
        · rename_i hph
          refine ⟨(keep_prot nv h0).refl w, fun w3 hE => ?_⟩
          rw [hph] at hgj
          have hph' : ph = true := by simp only [Bool.and_eq_true] at hph; exact hph.1
          rw [hph']
          exact evRest_sound hra hra2 h12 hro2 hC hC2 hX hl0 hnv hnv2 f true _ _ _ _ h w3 (hr.mono hE) (Nat.le_trans hB hE.size) hl (fun _ => hl2 hph') (fun _ => hk hph') hgj
            (fun ts ts' N' h' w' k1 k2 k3 k4 k5 => hQ ts ts' _ h' w' k1 ((Ext.grown hr hB hE).trans k2) k3 k4 k5)
        · rename_i hph
          have hph2 : (ph && I j) = false := by simpa using hph
          rw [hph2] at hgj
          exact evRest_sound hra hra2 h12 hro2 hC hC2 hX hl0 hnv hnv2 f false _ _ _ _ h w hr hB hl (fun h => by cases h) (fun h => by cases h) hgj hQ
      · rename_i hw
        rw [if_pos hw]
        refine .inl ?_
        split at hgj
        · rename_i hph
          have hph' : ph = true := by simp only [Bool.and_eq_true] at hph; exact hph.1
          have hr2 : Rep B ra2 h w := ⟨hr.blk, fun i b hi hle => hr.own i b hi (Nat.le_trans h12 hle), hr.diff⟩
          have hl2' := hl2 hph'
          refine evOp_sound hra2 hC2 hX hr2 hB hl2' hgj (fun v v' N' h' w' k1 k2 k3 k4 k5 => ?_)
          rw [if_pos hph]
          simp only [forceL_eq] at k5
          have hx : Ext B ra ro h w h' w' := ⟨k2.below, fun i b hi hb => by
            rcases k2.keep i b (by omega) hb with e | ⟨e1, e2⟩
            · exact .inl e
            · exact .inr ⟨by omega, e2⟩⟩
          have hr' : Rep B ra h' w' := ⟨k1.blk, fun i b hi hle => by
            rcases Nat.lt_or_ge i ra2 with h3 | h3
            · cases hnvv : nv with
              | true => have := hnv2 hnvv; omega
              | false =>
                have h2 := hnv hnvv
                have hi0 : i < h.length := by omega
                have hb0 : h[i]? = some h[i] := List.getElem?_eq_getElem hi0
                rcases k2.keep i _ (by omega) hb0 with ⟨e1, _⟩ | ⟨e1, _⟩
                · obtain rfl : h[i] = b := Option.some.inj (e1.symm.trans hi)
                  exact hr.own i _ hb0 hle
                · omega
            · exact k1.own i b hi h3, k1.diff⟩
          have stay : ∀ (i : Nat) (b : Blk), h0[i]? = some b → (nv && b.vec.isSome) = false → h'[i]? = some b ∧ w'.heap[b.name]? = w.heap[b.name]? := fun i b hi hv => by
            have hlt : i < ro2 := by rw [hl0]; exact (List.getElem?_eq_some_iff.1 hi).1
            rcases k2.keep i b hlt (hk hph' i b hi hv) with e | ⟨e1, e2, _⟩
            · exact e
            · exfalso
              cases hnvv : nv with
              | true =>
                rw [hnvv] at hv
                cases hvec : b.vec with
                | none => exact e2 hvec
                | some _ => rw [hvec] at hv; cases hv
              | false => have := hnv hnvv; omega
          refine ⟨⟨k2.below.size, fun i b hi hv _ => (stay i b hi hv).2⟩, fun w3 hE => ?_⟩
          rw [hph']
          exact evRest_sound hra hra2 h12 hro2 hC hC2 hX hl0 hnv hnv2 f true _ _ _ _ h' w3 (hr'.mono hE) (Nat.le_trans k3 hE.size) (by omega) (fun _ => k4) (fun _ i b hi hv => (stay i b hi hv).1) k5
            (fun ts ts' N'' h'' w'' j1 j2 j3 j4 j5 => hQ ts ts' _ h'' w'' j1 (hx.trans ((Ext.grown hr' k3 hE).trans j2)) j3 j4 j5)
        · rename_i hph
          refine evOp_sound hra hC hX hr hB hl hgj (fun v v' N' h' w' k1 k2 k3 k4 k5 => ?_)
          rw [if_neg (by rw [hph]; simp)]
          simp only [forceL_eq] at k5
          exact evRest_sound hra hra2 h12 hro2 hC hC2 hX hl0 hnv hnv2 f false _ _ _ _ h' w' k1 k3 k4 (fun h => by cases h) (fun h => by cases h) k5
            (fun ts ts' N'' h'' w'' j1 j2 j3 j4 j5 => hQ ts ts' _ h'' w'' j1 (k2.trans j2) j3 j4 j5)

/-- A function as the run takes it: its text, how many temporaries, how its regions that draw their order fit. -/
structure RT where
  hd : List Nat
  mks : List Nat
  app : Bool
  one : Option (List Nat)
def RT.I (r : RT) (j : Nat) : Bool := r.hd.contains j || r.mks.contains j
structure FnE where
  fn : Func
  code : Code
  n : Nat
  tab : Nat → RT

def codeOk (tab : Nat → RT) : Code → Bool
  | .region id ops true => RegP.fitsP ops (tab id).hd (tab id).I && match (tab id).one with
    | some l => Nat.beq l.length (ops.size - (tab id).hd.length) && seqOk ops l (RegP.marks (tab id).hd (Array.replicate ops.size false))
    | none => true
  | .seq a b => codeOk tab a && codeOk tab b
  | .cond _ a b => codeOk tab a && codeOk tab b
  | .block _ a => codeOk tab a
  | .loop a => codeOk tab a
  | _ => true

structure FnOk (P : Program) (g : Nat) (x : FnE) : Prop where
  func : P.funcs[g]? = some x.fn
  body : x.fn.body = some x.code
  ntmps : x.fn.ntmps = x.n
  call : ∀ (args : Array Value) (w : World), (callFunc g args).run P w = .ok (.enter g args) w
  fits : codeOk x.tab x.code = true

def EnvOk (P : Program) (E : Nat → Option FnE) : Prop := ∀ g x, E g = some x → FnOk P g x

def padL (a : List Value) (n : Nat) : List Value := a ++ List.replicate (n - a.length) undef

abbrev Run (ρ : Type) := Nat → Nat → (Nat → RT) → Code → List Value → List Value → St → (Exit → List Value → List Value → St → ρ) → ρ

/-- Calls that are known: their value, whatever the world. -/
def ZOk (P : Program) (Z : Nat → List Value → Option Value) : Prop :=
  ∀ g a v, Z g a = some v → (∀ w, (callFunc g ⟨a⟩).run P w = .ok (.enter g ⟨a⟩) w) ∧ ∀ w, Calls P g ⟨a⟩ w (fun e w' => e = .returned v ∧ Below w.heap.size w w')

section
variable {ρ : Type} (M : Mode ρ) (P : Program) (E : Nat → Option FnE) (Z X : Nat → List Value → Option Value)

def callW (run : Run ρ) (ra ro : Nat) : Callee ρ := fun g a a' st K =>
  match Z g a with
  | some v => forceV M.sym v fun v => K v v st
  | none => match E g with
  | some x => forceL (padL a x.n) fun ts => forceL (padL a' x.n) fun ts' => run ra ro x.tab x.code ts ts' st fun e ts ts' st => match e with
    | .normal => semR M P false st.heap (results x.fn ⟨ts⟩) (results x.fn ⟨ts'⟩) fun v v' => forceV M.sym v fun v => forceV M.sym v' fun v' => K v v' st
    | .ret => semR M P false st.heap (results x.fn ⟨ts⟩) (results x.fn ⟨ts'⟩) fun v v' => forceV M.sym v fun v => forceV M.sym v' fun v' => K v v' st
    | _ => M.no
  | none => M.no

def forceH : List Blk → (List Blk → ρ) → ρ
  | [], k => k []
  | ⟨_, _, v, e, c⟩ :: l, k => forceH l fun l => k (⟨l.length, v, v, e, c⟩ :: l)

def copyH : List Blk → List Blk
  | [] => []
  | ⟨_, _, v, e, c⟩ :: l => ⟨(copyH l).length, v, v, e, c⟩ :: copyH l
theorem forceH_eq : ∀ (l : List Blk) (k : List Blk → ρ), forceH l k = k (copyH l)
  | [], _ => rfl
  | ⟨_, _, v, e, c⟩ :: l, k => by rw [forceH, forceH_eq l]; rfl

/-- The callee of a region whose order is drawn: a run of the shadow alone says what it comes to. -/
def callH (run : Run ρ) (vrun : Run (Option Value)) : HCallee ρ := fun g a a' st K =>
  match Z g a with
  | some v => forceV M.sym v fun v => K v st
  | none => match M.virt with
  | true => callW M P E Z run st.heap.length st.heap.length g a a' st fun _ v' st' => K v' ⟨st.heap, st'.sup⟩
  | false => forceH st.heap fun hv => match callW vmode P E Z vrun hv.length hv.length g a' a' ⟨hv, List.replicate 100000 0⟩ (fun _ v' _ => some v') with
    | some v => forceV M.sym v fun v => callW M P E Z run st.heap.length st.heap.length g a a' st fun r _ st' => M.obs r v (K v ⟨st.heap, st'.sup⟩)
    | none => M.no

def loopR (body : List Value → List Value → St → (Exit → List Value → List Value → St → ρ) → ρ) : Nat → List Value → List Value → St → (Exit → List Value → List Value → St → ρ) → ρ
  | 0, _, _, _, _ => M.no
  | n + 1, ts, ts', st, K => body ts ts' st fun e ts ts' st => match e with
    | .normal => loopR body n ts ts' st K
    | e => K e ts ts' st
end

def ev (P : Program) (E : Nat → Option FnE) (Z X : Nat → List Value → Option Value) : Nat → (ρ : Type) → Mode ρ → Run ρ
  | 0, _, M => fun _ _ _ _ _ _ _ _ => M.no
  | f + 1, ρ, M => fun ra ro tab c ts ts' st K => match c with
    | .skip => K .normal ts ts' st
    | .label _ => K .normal ts ts' st
    | .region id ops draw => match draw with
      | false => evOps M P ra ro X (callW M P E Z (ev P E Z X f ρ M) ra ro) ops ops.toList ts ts' st fun ts ts' st => K .normal ts ts' st
      | true => match tab id with
        | ⟨hd, mk, app, one⟩ => evHead M P X (callH M P E Z (ev P E Z X f ρ M) (ev P E Z X f (Option Value) vmode)) app ops hd ts ts' st fun ts ts' st =>
          forceN st.heap.length fun ro2 => match app, one with
            | true, none => evRest M P ra ro X ra ro2 (callW M P E Z (ev P E Z X f ρ M) ra ro) (callW M P E Z (ev P E Z X f ρ M) ra ro2) (RT.I ⟨hd, mk, app, one⟩) ops (ops.size - hd.length) true (RegP.marks hd (Array.replicate ops.size false)) ts ts' st fun ts ts' st => K .normal ts ts' st
            | true, some l => evSeq M P ra ro X ra ro2 (callW M P E Z (ev P E Z X f ρ M) ra ro) (callW M P E Z (ev P E Z X f ρ M) ra ro2) (RT.I ⟨hd, mk, app, one⟩) ops l true ts ts' st fun ts ts' st => K .normal ts ts' st
            | false, none => evRest M P ra ro X ro2 ro2 (callW M P E Z (ev P E Z X f ρ M) ra ro) (callW M P E Z (ev P E Z X f ρ M) ro2 ro2) (RT.I ⟨hd, mk, app, one⟩) ops (ops.size - hd.length) true (RegP.marks hd (Array.replicate ops.size false)) ts ts' st fun ts ts' st => K .normal ts ts' st
            | false, some l => evSeq M P ra ro X ro2 ro2 (callW M P E Z (ev P E Z X f ρ M) ra ro) (callW M P E Z (ev P E Z X f ρ M) ro2 ro2) (RT.I ⟨hd, mk, app, one⟩) ops l true ts ts' st fun ts ts' st => K .normal ts ts' st
    | .seq a b => ev P E Z X f ρ M ra ro tab a ts ts' st fun e ts ts' st => match e with
      | .normal => ev P E Z X f ρ M ra ro tab b ts ts' st K
      | e => K e ts ts' st
    | .cond c a b => match evalL ts c with
      | .bool t => match t with
        | true => ev P E Z X f ρ M ra ro tab a ts ts' st K
        | false => ev P E Z X f ρ M ra ro tab b ts ts' st K
      | _ => M.no
    | .block id b => ev P E Z X f ρ M ra ro tab b ts ts' st fun e ts ts' st => match e with
      | .exit i => match Nat.beq i id with
        | true => K .normal ts ts' st
        | false => K (.exit i) ts ts' st
      | e => K e ts ts' st
    | .loop b => loopR M (ev P E Z X f ρ M ra ro tab b) f ts ts' st K
    | .exit id => K (.exit id) ts ts' st
    | .ret => K .ret ts ts' st
    | _ => M.no

def RunOk (P : Program) (run : Run Res) : Prop :=
  ∀ (B ra ro : Nat) (tab : Nat → RT) (c : Code) (ts ts' : List Value) (N : Nat) (h : List Blk) (w : World) (K : Exit → List Value → List Value → St → Res) (Q : Exit → Act → World → Prop),
    ra ≤ ro → codeOk tab c = true → Rep B ra h w → B ≤ w.heap.size → ro ≤ h.length → (∀ sup : Sup N, (run ra ro tab c ts ts' ⟨h, sup.1⟩ K).Good) →
    (∀ e ts ts' N' h' w', Rep B ra h' w' → Ext B ra ro h w h' w' → B ≤ w'.heap.size → ro ≤ h'.length → (∀ sup : Sup N', (K e ts ts' ⟨h', sup.1⟩).Good) → Q e ⟨⟨ts⟩, []⟩ w') →
    c.wp P Q ⟨⟨ts⟩, []⟩ w

theorem pad_eq (a : List Value) (n : Nat) : ((⟨a⟩ : Array Value) ++ Array.replicate (n - (⟨a⟩ : Array Value).size) undef) = ⟨padL a n⟩ := by
  apply Array.toList_inj.1
  simp [padL]

theorem callW_ok {P : Program} {E : Nat → Option FnE} {Z : Nat → List Value → Option Value} (hE : EnvOk P E) (hZ : ZOk P Z) {run : Run Res} (hrun : RunOk P run) {B ra ro : Nat} (hra : ra ≤ ro) : CalleeOk P B ra ro (callW lock P E Z run ra ro) := by
  intro g a a' N h w K hr hB hl hg
  have no : ∀ {p : Prop}, (lock.no : Res).Good → p := fun h => h.elim
  simp only [callW, forceV_eq] at hg
  split at hg
  · rename_i v hv
    obtain ⟨z1, z2⟩ := hZ g a v hv
    refine ⟨z1, Calls.mono (z2 w) (fun e w' he => ?_)⟩
    obtain ⟨rfl, hb⟩ := he
    exact ⟨v, v, N, h, rfl, hr.mono hb, Ext.grown hr hB hb, Nat.le_trans hB hb.size, hl, hg⟩
  split at hg
  case h_2 => exact no (hg (.some _))
  rename_i x hx
  have ok := hE g x hx
  refine ⟨fun w => ok.call _ w, ?_⟩
  refine calls_of_wp ok.func ok.body ?_
  simp only [forceL_eq] at hg
  rw [ok.ntmps, pad_eq]
  refine hrun B ra ro x.tab x.code _ _ _ h w _ _ hra ok.fits hr hB hl hg (fun e ts ts' N' h' w' k1 k2 k3 k4 k5 => ?_)
  have fin : (∀ sup : Sup N', (semR lock P false h' (results x.fn ⟨ts⟩) (results x.fn ⟨ts'⟩) fun v v' => K v v' ⟨h', sup.1⟩).Good) →
      ∃ v, (results x.fn ⟨ts⟩).run P w' = .ok v w' ∧ Rets P B ra ro h w K (.returned v) w' := by
    intro hk
    obtain ⟨v, v', j1, j2⟩ := semR_sound (Sup.some N') false h' (fun (sup : Sup N') v v' => K v v' ⟨h', sup.1⟩) _ _ hk
    exact ⟨v, j1 w' (k1.toV _), v, v', N', h', rfl, k1, k2, k3, k4, j2⟩
  cases e with
  | normal => exact ⟨rfl, fin k5⟩
  | ret => exact ⟨rfl, fin k5⟩
  | exit i => exact no (k5 (.some _))
  | goto l => exact no (k5 (.some _))
  | panic c => exact no (k5 (.some _))
  | outgrown => exact no (k5 (.some _))

theorem callH_ok {P : Program} {E : Nat → Option FnE} {Z : Nat → List Value → Option Value} (hE : EnvOk P E) (hZ : ZOk P Z) {run : Run Res} {vrun : Run (Option Value)} (hrun : RunOk P run) : HeadOk P (callH lock P E Z run vrun) := by
  intro g a a' N h w K hr hd hg
  have no : ∀ {p : Prop}, (lock.no : Res).Good → p := fun h => h.elim
  simp only [callH, forceV_eq] at hg
  split at hg
  · rename_i v hv
    obtain ⟨z1, z2⟩ := hZ g a v hv
    exact ⟨z1, v, fun w _ => z2 w, N, hg⟩
  simp only [lock] at hg
  have key : ∃ v, ∀ sup : Sup N, (callW lock P E Z run h.length h.length g a a' ⟨h, sup.1⟩ fun r _ st' => .obs r v (K v ⟨h, st'.sup⟩)).Good := by
    simp only [forceH_eq] at hg
    split at hg
    case h_2 => exact no (hg (.some _))
    rename_i v hv
    exact ⟨v, hg⟩
  obtain ⟨v, hv⟩ := key
  have all : ∀ w, RepV false h w → (∀ w, (callFunc g ⟨a⟩).run P w = .ok (.enter g ⟨a⟩) w) ∧ Calls P g ⟨a⟩ w (fun e w' => (e = .returned v ∧ Below w.heap.size w w') ∧ ∃ N', ∀ sup : Sup N', (K v ⟨h, sup.1⟩).Good) := by
    intro w hr
    have hr2 : Rep w.heap.size h.length h w := ⟨fun i b hi => hr i b hi rfl, fun i b hi hl => by
      have := (List.getElem?_eq_some_iff.1 hi).1
      omega, hd⟩
    obtain ⟨h1, h2⟩ := callW_ok (B := w.heap.size) hE hZ hrun (Nat.le_refl h.length) g a a' N h w _ hr2 (Nat.le_refl _) (Nat.le_refl _) hv
    refine ⟨h1, Calls.mono h2 (fun e w' he => ?_)⟩
    obtain ⟨r, r', N', h', rfl, k1, k2, k3, k4, k5⟩ := he
    have e1 : r = v := (k5 (.some _)).1
    subst e1
    exact ⟨⟨rfl, k2.below⟩, N', fun sup => (k5 sup).2⟩
  refine ⟨(all w hr).1, v, fun w hr => Calls.mono (all w hr).2 (fun e w' he => he.1), ?_⟩
  obtain ⟨e, w', fr, he, _⟩ := (all w hr).2 []
  exact he.2

theorem exit_then {Q : Exit → Act → World → Prop} {N : Act → World → Prop} {e : Exit} {a : Act} {w : World} (h1 : e = .normal → N a w) (h2 : e ≠ .normal → Q e a w) : Exit.then N Q e a w := by
  cases e <;> first | exact h1 rfl | exact h2 (by simp)

theorem loopR_ok {P : Program} {B ra ro : Nat} (hra : ra ≤ ro) {tab : Nat → RT} {c : Code} {run : Run Res} (hrun : RunOk P run) (hok : codeOk tab c = true) {K : Exit → List Value → List Value → St → Res} {Q : Exit → Act → World → Prop} :
    ∀ (n : Nat) (ts ts' : List Value) (N : Nat) (h : List Blk) (w : World), Rep B ra h w → B ≤ w.heap.size → ro ≤ h.length → (∀ sup : Sup N, (loopR lock (run ra ro tab c) n ts ts' ⟨h, sup.1⟩ K).Good) →
    (∀ e ts ts' N' h' w', Rep B ra h' w' → Ext B ra ro h w h' w' → B ≤ w'.heap.size → ro ≤ h'.length → (∀ sup : Sup N', (K e ts ts' ⟨h', sup.1⟩).Good) → Q e ⟨⟨ts⟩, []⟩ w') →
    Code.rounds P c Q n ⟨⟨ts⟩, []⟩ w
  | 0, ts, ts', N, h, w, hr, hB, hl, hg, hQ => (hg (.some _)).elim
  | n + 1, ts, ts', N, h, w, hr, hB, hl, hg, hQ => by
    unfold Code.rounds
    refine hrun B ra ro tab c ts ts' N h w _ _ hra hok hr hB hl hg (fun e ts ts' N' h' w' k1 k2 k3 k4 k5 => ?_)
    cases e with
    | normal => exact loopR_ok hra hrun hok n ts ts' _ h' w' k1 k3 k4 k5 (fun e ts ts' N'' h'' w'' j1 j2 j3 j4 j5 => hQ e ts ts' _ h'' w'' j1 (k2.trans j2) j3 j4 j5)
    | exit i => exact hQ _ _ _ _ _ _ k1 k2 k3 k4 k5
    | ret => exact hQ _ _ _ _ _ _ k1 k2 k3 k4 k5
    | goto l => exact hQ _ _ _ _ _ _ k1 k2 k3 k4 k5
    | panic c => exact hQ _ _ _ _ _ _ k1 k2 k3 k4 k5
    | outgrown => exact hQ _ _ _ _ _ _ k1 k2 k3 k4 k5

theorem ev_ok {P : Program} {E : Nat → Option FnE} {Z X : Nat → List Value → Option Value} (hE : EnvOk P E) (hZ : ZOk P Z) (hX : XOk P X) (hm : P.follows .mixedOrders = true) : ∀ f, RunOk P (ev P E Z X f Res lock)
  | 0 => fun B ra ro tab c ts ts' N h w K Q _ _ _ _ _ hg _ => (hg (.some _)).elim
  | f + 1 => by
    have ih := ev_ok hE hZ hX hm f
    intro B ra ro tab c ts ts' N h w K Q hra hok hr hB hl hg hQ
    have no : ∀ {p : Prop}, (lock.no : Res).Good → p := fun h => h.elim
    cases c with
    | skip => exact wp_skip (hQ _ _ _ _ _ _ hr (Ext.refl _ _ _ _ _) hB hl hg)
    | label l => exact wp_label (hQ _ _ _ _ _ _ hr (Ext.refl _ _ _ _ _) hB hl hg)
    | exit id => exact wp_exit (hQ _ _ _ _ _ _ hr (Ext.refl _ _ _ _ _) hB hl hg)
    | ret => exact wp_ret (hQ _ _ _ _ _ _ hr (Ext.refl _ _ _ _ _) hB hl hg)
    | goto l => exact no (hg (.some _))
    | scope b => exact no (hg (.some _))
    | refuse w => exact no (hg (.some _))
    | rangeFunc a b c d => exact no (hg (.some _))
    | seq a b =>
      simp only [codeOk, Bool.and_eq_true] at hok
      refine wp_seq (ih B ra ro tab a ts ts' N h w _ _ hra hok.1 hr hB hl hg (fun e ts ts' N' h' w' k1 k2 k3 k4 k5 => ?_))
      cases e with
      | normal => exact ih B ra ro tab b ts ts' _ h' w' K Q hra hok.2 k1 k3 k4 k5 (fun e ts ts' N'' h'' w'' j1 j2 j3 j4 j5 => hQ e ts ts' _ h'' w'' j1 (k2.trans j2) j3 j4 j5)
      | exit i => exact hQ _ _ _ _ _ _ k1 k2 k3 k4 k5
      | ret => exact hQ _ _ _ _ _ _ k1 k2 k3 k4 k5
      | goto l => exact hQ _ _ _ _ _ _ k1 k2 k3 k4 k5
      | panic c => exact hQ _ _ _ _ _ _ k1 k2 k3 k4 k5
      | outgrown => exact hQ _ _ _ _ _ _ k1 k2 k3 k4 k5
    | cond c a b =>
      simp only [codeOk, Bool.and_eq_true] at hok
      simp only [ev] at hg
      split at hg
      case h_2 => exact no (hg (.some _))
      rename_i t ht
      have hc : (⟨⟨ts⟩, []⟩ : Act).eval c = .bool t := by rw [evalL_eq]; exact ht
      cases t
      · exact wp_cond_false hc (ih B ra ro tab b ts ts' N h w K Q hra hok.2 hr hB hl hg hQ)
      · exact wp_cond_true hc (ih B ra ro tab a ts ts' N h w K Q hra hok.1 hr hB hl hg hQ)
    | block id b =>
      simp only [codeOk] at hok
      refine wp_block (ih B ra ro tab b ts ts' N h w _ _ hra hok hr hB hl hg (fun e ts ts' N' h' w' k1 k2 k3 k4 k5 => ?_))
      cases e with
      | normal => exact hQ _ _ _ _ _ _ k1 k2 k3 k4 k5
      | exit i =>
        simp only [Exit.inBlock]
        simp only [] at k5
        split at k5
        · rename_i hid
          have : i = id := by simpa using hid
          rw [if_pos this]
          exact hQ _ _ _ _ _ _ k1 k2 k3 k4 k5
        · rename_i hid
          have : ¬ i = id := by intro he; subst he; simp at hid
          rw [if_neg this]
          exact hQ _ _ _ _ _ _ k1 k2 k3 k4 k5
      | ret => exact hQ _ _ _ _ _ _ k1 k2 k3 k4 k5
      | goto l => exact hQ _ _ _ _ _ _ k1 k2 k3 k4 k5
      | panic c => exact hQ _ _ _ _ _ _ k1 k2 k3 k4 k5
      | outgrown => exact hQ _ _ _ _ _ _ k1 k2 k3 k4 k5
    | loop b =>
      simp only [codeOk] at hok
      exact wp_loop_rounds f (loopR_ok hra ih hok f ts ts' N h w hr hB hl hg hQ)
    | region id ops draw =>
      cases draw with
      | false =>
        exact wp_region_list (evOps_sound hra (callW_ok hE hZ ih hra) hX ops.toList ts ts' N h w hr hB hl hg (fun ts ts' N' h' w' k1 k2 k3 k4 k5 => hQ _ _ _ _ _ _ k1 k2 k3 k4 k5))
      | true =>
        simp only [codeOk, Bool.and_eq_true] at hok
        obtain ⟨hok, hone⟩ := hok
        simp only [ev, forceN_eq] at hg
        have hdB : Below w.heap.size w w.drew := Below.drew (Below.refl _ _)
        have hr1 : Rep B ra h w.drew := hr.mono hdB
        have hx1 : Ext B ra ro h w h w.drew := Ext.grown hr hB hdB
        generalize htab : tab id = rt at hg hok hone
        obtain ⟨hd, mk, app, one⟩ := rt
        refine RegP.wp_region_P (keep_prot app h) hm hok ?_
        refine evHead_sound (w := w.drew) (callH_ok hE hZ ih) hX (fun w' hk => Keep.rep (hr1.toV _) hk) (hr1.toV _) hr.diff _ ts ts' N hg (fun ts ts' N' hg => ?_)
        intro w' hE'
        have hr2 := hr1.mono hE'
        cases app with
        | true =>
          have hg' : ∀ sup : Sup N', (evRest lock P ra ro X ra h.length (callW lock P E Z (ev P E Z X f Res lock) ra ro) (callW lock P E Z (ev P E Z X f Res lock) ra h.length) (RT.I ⟨hd, mk, true, one⟩) ops (ops.size - hd.length) true (RegP.marks hd (Array.replicate ops.size false)) ts ts' ⟨h, sup.1⟩ fun ts ts' st => K .normal ts ts' st).Good := by
            cases one with
            | none => exact hg
            | some l =>
              simp only [Bool.and_eq_true, Nat.beq_eq] at hone
              intro sup
              rw [← hone.1, rest_of_seq _ _ _ _ _ _ _ _ _ _ _ _ _ _ _ _ _ _ hone.2]
              exact hg sup
          exact evRest_sound hra (Nat.le_trans hra hl) (Nat.le_refl _) hl (callW_ok hE hZ ih hra) (callW_ok hE hZ ih (Nat.le_trans hra hl)) hX rfl (fun h => by cases h) (fun _ => rfl) _ true _ ts ts' N' h w' hr2 (Nat.le_trans hB hE'.size) hl (fun _ => Nat.le_refl _) (fun _ i b hi _ => hi) hg'
            (fun ts ts' N'' h' w' k1 k2 k3 k4 k5 => hQ _ _ _ _ _ _ k1 (hx1.trans ((Ext.grown hr1 (by exact hB) hE').trans k2)) k3 k4 k5)
        | false =>
          have hg' : ∀ sup : Sup N', (evRest lock P ra ro X h.length h.length (callW lock P E Z (ev P E Z X f Res lock) ra ro) (callW lock P E Z (ev P E Z X f Res lock) h.length h.length) (RT.I ⟨hd, mk, false, one⟩) ops (ops.size - hd.length) true (RegP.marks hd (Array.replicate ops.size false)) ts ts' ⟨h, sup.1⟩ fun ts ts' st => K .normal ts ts' st).Good := by
            cases one with
            | none => exact hg
            | some l =>
              simp only [Bool.and_eq_true, Nat.beq_eq] at hone
              intro sup
              rw [← hone.1, rest_of_seq _ _ _ _ _ _ _ _ _ _ _ _ _ _ _ _ _ _ hone.2]
              exact hg sup
          exact evRest_sound hra (Nat.le_refl _) (Nat.le_trans hra hl) hl (callW_ok hE hZ ih hra) (callW_ok hE hZ ih (Nat.le_refl _)) hX rfl (fun _ => rfl) (fun h => by cases h) _ true _ ts ts' N' h w' hr2 (Nat.le_trans hB hE'.size) hl (fun _ => Nat.le_refl _) (fun _ i b hi _ => hi) hg'
            (fun ts ts' N'' h' w' k1 k2 k3 k4 k5 => hQ _ _ _ _ _ _ k1 (hx1.trans ((Ext.grown hr1 (by exact hB) hE').trans k2)) k3 k4 k5)
end Go.Proofs.YtemfhipofgafiaaGreatDoor.Ev
