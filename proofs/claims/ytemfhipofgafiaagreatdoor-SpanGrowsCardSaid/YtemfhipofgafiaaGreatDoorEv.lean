/- A RUN THAT THE KERNEL RECKONS IN ANY WORLD: the code is run on values whose blocks bear names; beside it a shadow whose blocks bear numbers finds them again. -/
import Derived.Test.YtemfhipofgafiaaGreatDoorRegion
import Derived.Maps.AppendAt
set_option linter.unusedVariables false
set_option linter.unusedSimpArgs false
namespace Go.Proofs.YtemfhipofgafiaaGreatDoor.Ev
open Go Go.RowKit

/-- What a run asks: equal values. -/
inductive Res where
  | ok
  | no
  | obs (x y : Value) (r : Res)
  | both (a b : Res)
inductive Tr where
  | nil
  | bad
  | cons (v : Value) (t : Tr)
  | node (a b : Tr)
def Res.Good : Res → Prop
  | .ok => True
  | .no => False
  | .obs x y r => x = y ∧ r.Good
  | .both a b => a.Good ∧ b.Good
def Res.L : Res → Tr
  | .ok => .nil
  | .no => .bad
  | .obs x _ r => .cons x r.L
  | .both a b => .node a.L b.L
def Res.R : Res → Tr
  | .ok => .nil
  | .no => .nil
  | .obs _ y r => .cons y r.R
  | .both a b => .node a.R b.R
theorem Res.good_of : ∀ {r : Res}, r.L = r.R → r.Good
  | .ok, _ => trivial
  | .no, h => by simp [Res.L, Res.R] at h
  | .obs x y r, h => by
    simp only [Res.L, Res.R, Tr.cons.injEq] at h
    exact ⟨h.1, Res.good_of h.2⟩
  | .both a b, h => by
    simp only [Res.L, Res.R, Tr.node.injEq] at h
    exact ⟨Res.good_of h.1, Res.good_of h.2⟩

structure Mode (ρ : Type) where
  obs : Value → Value → ρ → ρ
  no : ρ
  both : ρ → ρ → ρ
  virt : Bool
  sym : Bool
def lock : Mode Res := ⟨.obs, .no, .both, false, false⟩
def vmode : Mode (Option Value) := ⟨fun _ _ r => r, none, fun r _ => r, true, false⟩

/-- A block: its name in the world; its cells, those of the shadow; vec: more cells may lie behind, the slice over it has that capacity. -/
structure Blk where
  name : Nat
  real : List Value
  virt : List Value
  elem : TypeId
  vec : Option (Nat × Nat)
structure St where
  heap : List Blk
  sup : List Nat
/-- Supplies of n names. -/
def Sup (n : Nat) : Type := {l : List Nat // l.length = n}
def Sup.some (n : Nat) : Sup n := ⟨List.replicate n 0, by simp⟩
def Sup.ahead {n : Nat} (b : Nat) (s : Sup n) : Sup (n + 1) := ⟨b :: s.1, by simp [s.2]⟩

section force
variable {α ρ : Type}
def forceL : List α → (List α → ρ) → ρ
  | [], k => k []
  | x :: xs, k => forceL xs fun ys => k (x :: ys)
theorem forceL_eq : ∀ (l : List α) (k : List α → ρ), forceL l k = k l
  | [], _ => rfl
  | x :: xs, k => by rw [forceL, forceL_eq xs]
def forceN (n : Nat) (k : Nat → ρ) : ρ :=
  match n with
  | 0 => k 0
  | m + 1 => k (m + 1)
theorem forceN_eq (n : Nat) (k : Nat → ρ) : forceN n k = k n := by cases n <;> rfl
def forceI (n : Int) (k : Int → ρ) : ρ :=
  match n with
  | .ofNat m => forceN m fun m => k (.ofNat m)
  | .negSucc m => forceN m fun m => k (.negSucc m)
theorem forceI_eq (n : Int) (k : Int → ρ) : forceI n k = k n := by cases n <;> simp [forceI, forceN_eq]
def forceB (b : Bool) (k : Bool → ρ) : ρ :=
  match b with
  | true => k true
  | false => k false
theorem forceB_eq (b : Bool) (k : Bool → ρ) : forceB b k = k b := by cases b <;> rfl
/-- The numbers of a list of cells. -/
def forceC : List Value → (List Value → ρ) → ρ
  | [], k => k []
  | v :: l, k => match v with
    | .int q n => forceI n fun n => forceC l fun l => k (.int q n :: l)
    | .bool b => forceB b fun b => forceC l fun l => k (.bool b :: l)
    | v => forceC l fun l => k (v :: l)
theorem forceC_eq : ∀ (l : List Value) (k : List Value → ρ), forceC l k = k l
  | [], _ => rfl
  | v :: l, k => by
    cases v <;> simp only [forceC, forceI_eq, forceB_eq] <;> rw [forceC_eq l]
def forceT : List Value → (List Value → ρ) → ρ
  | [], k => k []
  | v :: l, k => match v with
    | .int q n => forceI n fun n => forceT l fun l => k (.int q n :: l)
    | .bool b => forceB b fun b => forceT l fun l => k (.bool b :: l)
    | .agg ⟨c⟩ => forceC c fun c => forceT l fun l => k (.agg ⟨c⟩ :: l)
    | v => forceT l fun l => k (v :: l)
theorem forceT_eq : ∀ (l : List Value) (k : List Value → ρ), forceT l k = k l
  | [], _ => rfl
  | v :: l, k => by
    cases v <;> simp only [forceT, forceI_eq, forceB_eq, forceC_eq] <;> rw [forceT_eq l]
def forceV (sym : Bool) (v : Value) (k : Value → ρ) : ρ :=
  match v with
  | .agg ⟨l⟩ => match sym with
    | true => forceL l fun l => k (.agg ⟨l⟩)
    | false => forceC l fun l => k (.agg ⟨l⟩)
  | .tuple ⟨l⟩ => match sym with
    | true => forceL l fun l => k (.tuple ⟨l⟩)
    | false => forceT l fun l => k (.tuple ⟨l⟩)
  | .int q n => match sym with
    | true => k (.int q n)
    | false => forceI n fun n => k (.int q n)
  | .bool b => match sym with
    | true => k (.bool b)
    | false => forceB b fun b => k (.bool b)
  | .pointer none => k (.pointer none)
  | .pointer (some ⟨b, o, s⟩) => k (.pointer (some ⟨b, o, s⟩))
  | .slice none n c => k (.slice none n c)
  | .slice (some ⟨b, o, s⟩) n c => k (.slice (some ⟨b, o, s⟩) n c)
  | .func f ⟨a⟩ ⟨b⟩ => forceL a fun a => forceL b fun b => k (.func f ⟨a⟩ ⟨b⟩)
  | v => k v
theorem forceV_eq (sym : Bool) (v : Value) (k : Value → ρ) : forceV sym v k = k v := by
  unfold forceV
  split <;> cases sym <;> simp [forceL_eq, forceC_eq, forceT_eq, forceI_eq, forceB_eq]
end force

def cellsNew (o o' : Obj) : Option (List Value × List Value × TypeId) :=
  match o, o' with
  | .cells ⟨c⟩ e (0, 0), .cells ⟨c'⟩ _ _ => some (c, c', e)
  | _, _ => none

section
variable {ρ : Type} (M : Mode ρ) (P : Program) (ro : Nat)

/-- The two trees, one beside the other: the shadow's says which block. -/
def semL {α : Type} : Sem α → Sem α → St → (α → α → St → ρ) → ρ
  | .pure x, s', st, K => match s' with
    | .pure y => K x y st
    | _ => M.no
  | .load _ a k, s', st, K => match s' with
    | .load _ b k' => match st.heap[b.block]? with
      | some ⟨n, r, r', _, _⟩ => match a.spot with
        | none => match r[a.off]? with
          | some v => match r'[b.off]? with
            | some v' => M.obs (.map (some a.block)) (.map (some n)) (semL (k v) (k' v') st K)
            | none => M.no
          | none => M.no
        | some _ => M.no
      | none => M.no
    | _ => M.no
  | .store _ a v k, s', st, K => match s' with
    | .store _ b v' k' => match st.heap[b.block]? with
      | some ⟨n, r, r', e, c⟩ => match a.spot with
        | none => match r[a.off]? with
          | some _ => match v.oneCell' && Nat.ble ro b.block with
            | true => M.obs (.map (some a.block)) (.map (some n)) (forceL (r.set a.off v) fun r => forceL (r'.set b.off v') fun r' => forceL (st.heap.set b.block ⟨n, r, r', e, c⟩) fun h => semL k k' ⟨h, st.sup⟩ K)
            | false => M.no
          | none => M.no
        | some _ => M.no
      | none => M.no
    | _ => M.no
  | .new o k, s', st, K => match s' with
    | .new o' k' => match cellsNew o o' with
      | some (c, c', e) => match st.sup with
        | nm :: sup => forceL c fun c => forceL c' fun c' => forceL (st.heap ++ [⟨nm, c, c', e, none⟩]) fun h => forceN st.heap.length fun n => semL (k nm) (k' n) ⟨h, sup⟩ K
        | [] => M.no
      | none => M.no
    | _ => M.no
  | .shape a k, s', st, K => match s' with
    | .shape b k' => match st.heap[b]? with
      | some ⟨n, r, _, e, none⟩ => M.obs (.map (some a)) (.map (some n)) (semL (k (some (e, r.length))) (k' (some (e, r.length))) st K)
      | _ => M.no
    | _ => M.no
  | .frozen a k, s', st, K => match s' with
    | .frozen b k' => match st.heap[b.block]? with
      | some ⟨n, _, _, _, _⟩ => M.obs (.map (some a.block)) (.map (some n)) (semL (k false) (k' false) st K)
      | none => M.no
    | _ => M.no
  | .program k, s', st, K => match s' with
    | .program k' => semL (k P) (k' P) st K
    | _ => M.no
  | .mark _ k, s', st, K => match s' with
    | .mark _ k' => semL k k' st K
    | _ => M.no
  | _, _, _, _ => M.no

/-- The same, of trees that read alone. -/
def semR {α : Type} (nv : Bool) (h : List Blk) : Sem α → Sem α → (α → α → ρ) → ρ
  | .pure x, s', K => match s' with
    | .pure y => K x y
    | _ => M.no
  | .load _ a k, s', K => match s' with
    | .load _ b k' => match h[b.block]? with
      | some ⟨n, r, r', _, c⟩ => match nv && c.isSome, a.spot with
        | false, none => match r[a.off]? with
          | some v => match r'[b.off]? with
            | some v' => M.obs (.map (some a.block)) (.map (some n)) (semR nv h (k v) (k' v') K)
            | none => M.no
          | none => M.no
        | _, _ => M.no
      | none => M.no
    | _ => M.no
  | .shape a k, s', K => match s' with
    | .shape b k' => match h[b]? with
      | some ⟨n, r, _, e, none⟩ => M.obs (.map (some a)) (.map (some n)) (semR nv h (k (some (e, r.length))) (k' (some (e, r.length))) K)
      | _ => M.no
    | _ => M.no
  | .frozen a k, s', K => match s' with
    | .frozen b k' => match h[b.block]? with
      | some ⟨n, _, _, _, c⟩ => match nv && c.isSome with
        | false => M.obs (.map (some a.block)) (.map (some n)) (semR nv h (k false) (k' false) K)
        | true => M.no
      | none => M.no
    | _ => M.no
  | .program k, s', K => match s' with
    | .program k' => semR nv h (k P) (k' P) K
    | _ => M.no
  | .mark _ k, s', K => match s' with
    | .mark _ k' => semR nv h k k' K
    | _ => M.no
  | _, _, _ => M.no
end

/-- What is known of a block holds. -/
def RepB (w : World) (b : Blk) : Prop :=
  ∃ rest, w.heap[b.name]? = some (.cells ⟨b.real ++ rest⟩ b.elem (0, 0)) ∧ (b.vec = none → rest = []) ∧ ∀ cap sz, b.vec = some (cap, sz) → b.real.length + rest.length = cap * sz ∧ cap ≤ maxLen
structure Rep (B ra : Nat) (h : List Blk) (w : World) : Prop where
  blk : ∀ (i : Nat) (b : Blk), h[i]? = some b → RepB w b
  own : ∀ (i : Nat) (b : Blk), h[i]? = some b → ra ≤ i → B ≤ b.name
  diff : ∀ (i j : Nat) (b c : Blk), h[i]? = some b → h[j]? = some c → i ≠ j → b.name ≠ c.name

theorem RepB.lt {w : World} {b : Blk} (h : RepB w b) : b.name < w.heap.size := by
  obtain ⟨r, hr, _⟩ := h
  exact (Array.getElem?_eq_some_iff.1 hr).1
theorem Rep.mono {B ra : Nat} {h : List Blk} {w w' : World} (hr : Rep B ra h w) (hb : Below w.heap.size w w') : Rep B ra h w' :=
  ⟨fun i b hi => by
    obtain ⟨r, h1, h2⟩ := hr.blk i b hi
    exact ⟨r, (hb.block _ (RepB.lt (hr.blk i b hi))).trans h1, h2⟩, hr.own, hr.diff⟩
/-- For one that writes nothing that is there. -/
theorem Rep.lift {B ro : Nat} {h : List Blk} {w : World} (hr : Rep B ro h w) (B' : Nat) : Rep B' h.length h w :=
  ⟨hr.blk, fun i b hi hl => by
    have := (List.getElem?_eq_some_iff.1 hi).1
    omega, hr.diff⟩
theorem Rep.nil (w : World) (B ro : Nat) : Rep B ro [] w := ⟨fun i b h => by simp at h, fun i b h => by simp at h, fun i j b c h => by simp at h⟩

theorem RepB.load {w : World} {b : Blk} {a : Addr} {v : Value} (h : RepB w b) (hn : a.block = b.name) (hs : a.spot = none) (hv : b.real[a.off]? = some v) : w.cell? a = some v := by
  obtain ⟨r, hr, _⟩ := h
  simp only [World.cell?, hn, hr, hs, Option.isSome_none, Bool.false_eq_true, if_false]
  have : a.off < b.real.length := (List.getElem?_eq_some_iff.1 hv).1
  simp [List.getElem?_append_left this, hv]
theorem RepB.frozen {w : World} {b : Blk} {a : Addr} (h : RepB w b) (hn : a.block = b.name) : w.frozen? a = false := by
  obtain ⟨r, hr, _⟩ := h
  simp [World.frozen?, hn, hr]
theorem RepB.shape {w : World} {n : Nat} {r r' : List Value} {e : TypeId} (h : RepB w ⟨n, r, r', e, none⟩) : w.shape? n = some (e, r.length) := by
  obtain ⟨q, hr, hq, _⟩ := h
  obtain rfl := hq rfl
  simp only [List.append_nil] at hr
  simp [World.shape?, hr]

/-- What a run leaves: those below ro stay, but for slices that grow, from ra on. -/
structure Ext (B ra ro : Nat) (h : List Blk) (w : World) (h' : List Blk) (w' : World) : Prop where
  below : Below B w w'
  keep : ∀ (i : Nat) (b : Blk), i < ro → h[i]? = some b → (h'[i]? = some b ∧ w'.heap[b.name]? = w.heap[b.name]?) ∨ (ra ≤ i ∧ b.vec ≠ none ∧ ∃ b', h'[i]? = some b' ∧ b'.vec ≠ none)
theorem Ext.refl (B ra ro : Nat) (h : List Blk) (w : World) : Ext B ra ro h w h w := ⟨Below.refl _ _, fun _ _ _ hi => .inl ⟨hi, rfl⟩⟩
theorem Ext.trans {B ra ro : Nat} {h h1 h2 : List Blk} {w w1 w2 : World} (a : Ext B ra ro h w h1 w1) (b : Ext B ra ro h1 w1 h2 w2) : Ext B ra ro h w h2 w2 :=
  ⟨a.below.trans b.below, fun i x hi hx => by
    rcases a.keep i x hi hx with ⟨k1, k2⟩ | ⟨k1, k2, y, k3, k4⟩
    · rcases b.keep i x hi k1 with ⟨j1, j2⟩ | ⟨j1, j2, j3⟩
      · exact .inl ⟨j1, j2.trans k2⟩
      · exact .inr ⟨j1, j2, j3⟩
    · rcases b.keep i y hi k3 with ⟨j1, j2⟩ | ⟨j1, j2, j3⟩
      · exact .inr ⟨k1, k2, y, j1, k4⟩
      · exact .inr ⟨k1, k2, j3⟩⟩
/-- A world that has grown alone. -/
theorem Ext.grown {B ra ro : Nat} {h : List Blk} {w w' : World} (hr : Rep B ra h w) (hB : B ≤ w.heap.size) (hb : Below w.heap.size w w') : Ext B ra ro h w h w' :=
  ⟨hb.mono hB, fun i b _ hi => .inl ⟨hi, hb.block _ (RepB.lt (hr.blk i b hi))⟩⟩

theorem Rep.store {B ra ro : Nat} (hra : ra ≤ ro) {h : List Blk} {w : World} (hr : Rep B ra h w) {i : Nat} {n : Nat} {r r' : List Value} {e : TypeId} {c : Option (Nat × Nat)} (hi : h[i]? = some ⟨n, r, r', e, c⟩) (hro : ro ≤ i)
    {a : Addr} (hn : a.block = n) (hs : a.spot = none) {u : Value} (hu : r[a.off]? = some u) (v : Value) (r2' : List Value) :
    Rep B ra (h.set i ⟨n, r.set a.off v, r2', e, c⟩) (w.setCell a v) ∧ Ext B ra ro h w (h.set i ⟨n, r.set a.off v, r2', e, c⟩) (w.setCell a v) := by
  have hlt : i < h.length := (List.getElem?_eq_some_iff.1 hi).1
  have hof : a.off < r.length := (List.getElem?_eq_some_iff.1 hu).1
  obtain ⟨q, hq, hqn, hqv⟩ := hr.blk i _ hi
  have hB : B ≤ n := hr.own i _ hi (Nat.le_trans hra hro)
  have get : ∀ (j : Nat) (b : Blk), (h.set i ⟨n, r.set a.off v, r2', e, c⟩)[j]? = some b → (j = i ∧ b = ⟨n, r.set a.off v, r2', e, c⟩) ∨ (j ≠ i ∧ h[j]? = some b) := by
    intro j b hj
    rw [List.getElem?_set] at hj
    by_cases hij : i = j
    · subst hij
      simp [hlt] at hj
      exact .inl ⟨rfl, hj.symm⟩
    · simp only [hij, if_false] at hj
      exact .inr ⟨fun e => hij e.symm, hj⟩
  refine ⟨⟨?_, ?_, ?_⟩, ⟨Below.setCell (Below.refl _ _) (by rw [hn]; exact hB) v, ?_⟩⟩
  · intro j b hj
    rcases get j b hj with ⟨rfl, rfl⟩ | ⟨hne, hb⟩
    · refine ⟨q, ?_, hqn, by simpa using hqv⟩
      have hnlt : n < w.heap.size := (Array.getElem?_eq_some_iff.1 hq).1
      simp only [World.setCell, Array.getElem?_modify, hn, if_true]
      simp only [hq, Option.map_some, hs, Option.isSome_none, Bool.false_eq_true, if_false]
      simp [List.setIfInBounds_toArray, List.set_append, hof]
    · obtain ⟨q2, hq2, h2⟩ := hr.blk j b hb
      refine ⟨q2, ?_, h2⟩
      rw [Below.heap_setCell _ _ _ _ (by rw [hn]; exact hr.diff j i b _ hb hi hne)]
      exact hq2
  · intro j b hj hl
    rcases get j b hj with ⟨rfl, rfl⟩ | ⟨hne, hb⟩
    · exact hB
    · exact hr.own j b hb hl
  · intro j k b d hj hk hjk
    rcases get j b hj with ⟨rfl, rfl⟩ | ⟨hne, hb⟩
    · rcases get k d hk with ⟨rfl, rfl⟩ | ⟨hne', hd⟩
      · exact absurd rfl hjk
      · have := hr.diff j k ⟨n, r, r', e, c⟩ d hi hd hjk; exact this
    · rcases get k d hk with ⟨rfl, rfl⟩ | ⟨hne', hd⟩
      · have := hr.diff j k b ⟨n, r, r', e, c⟩ hb hi hjk; exact this
      · exact hr.diff j k b d hb hd hjk
  · intro j b hj hb
    have hne : i ≠ j := by omega
    refine .inl ⟨?_, ?_⟩
    · rw [List.getElem?_set]
      simp [hne, hb]
    · exact Below.heap_setCell _ _ _ _ (by rw [hn]; exact hr.diff j i b _ hb hi (fun e => hne e.symm))

theorem Rep.push {B ra ro : Nat} {h : List Blk} {w : World} (hr : Rep B ra h w) (hB : B ≤ w.heap.size) (c c' : List Value) (e : TypeId) :
    Rep B ra (h ++ [⟨w.heap.size, c, c', e, none⟩]) (w.alloc (.cells ⟨c⟩ e (0, 0))) ∧ Ext B ra ro h w (h ++ [⟨w.heap.size, c, c', e, none⟩]) (w.alloc (.cells ⟨c⟩ e (0, 0))) := by
  have get : ∀ (j : Nat) (b : Blk), (h ++ [(⟨w.heap.size, c, c', e, none⟩ : Blk)])[j]? = some b → (j = h.length ∧ b = ⟨w.heap.size, c, c', e, none⟩) ∨ (j < h.length ∧ h[j]? = some b) := by
    intro j b hj
    rw [List.getElem?_append] at hj
    split at hj
    · exact .inr ⟨by assumption, hj⟩
    · have h1 := (List.getElem?_eq_some_iff.1 hj).1
      simp at h1
      have h2 : j = h.length := by omega
      subst h2
      simp at hj
      exact .inl ⟨rfl, hj.symm⟩
  have below : Below w.heap.size w (w.alloc (.cells ⟨c⟩ e (0, 0))) := Below.alloc (Below.refl _ _) (Nat.le_refl _) _
  refine ⟨⟨?_, ?_, ?_⟩, ⟨Below.alloc (Below.refl _ _) hB _, ?_⟩⟩
  · intro j b hj
    rcases get j b hj with ⟨rfl, rfl⟩ | ⟨hlt, hb⟩
    · exact ⟨[], by simpa using (MapKept.heap_alloc w (.cells ⟨c⟩ e (0, 0))).1, fun _ => rfl, fun _ _ h => by cases h⟩
    · exact (hr.mono below).blk j b hb
  · intro j b hj hle
    rcases get j b hj with ⟨rfl, rfl⟩ | ⟨hlt, hb⟩
    · exact hB
    · exact hr.own j b hb hle
  · intro j k b d hj hk hjk
    rcases get j b hj with ⟨rfl, rfl⟩ | ⟨hlt, hb⟩
    · rcases get k d hk with ⟨rfl, rfl⟩ | ⟨hlt', hd⟩
      · exact absurd rfl hjk
      · have := RepB.lt (hr.blk k d hd); simp; omega
    · rcases get k d hk with ⟨rfl, rfl⟩ | ⟨hlt', hd⟩
      · have := RepB.lt (hr.blk j b hb); simp; omega
      · exact hr.diff j k b d hb hd hjk
  · intro i b hi hb
    have hlt := (List.getElem?_eq_some_iff.1 hb).1
    exact .inl ⟨by rw [List.getElem?_append_left hlt]; exact hb, below.block _ (RepB.lt (hr.blk i b hb))⟩

theorem semL_sound {P : Program} {B ra ro : Nat} (hra : ra ≤ ro) {α : Type} (K : α → α → St → Res) : ∀ (s s' : Sem α) (N : Nat) (h : List Blk) (w : World), Rep B ra h w → B ≤ w.heap.size → ro ≤ h.length →
    (∀ sup : Sup N, (semL lock P ro s s' ⟨h, sup.1⟩ K).Good) →
    ∃ x x' N' h' w', s.run P w = .ok x w' ∧ Rep B ra h' w' ∧ Ext B ra ro h w h' w' ∧ B ≤ w'.heap.size ∧ ro ≤ h'.length ∧ ∀ sup : Sup N', (K x x' ⟨h', sup.1⟩).Good := by
  intro s
  have no : ∀ {p : Prop}, (lock.no : Res).Good → p := fun h => h.elim
  induction s with
  | pure x =>
    intro s' N h w hr hB hl hg
    cases s' <;> first | exact no (hg (.some _)) | skip
    exact ⟨x, _, N, h, w, rfl, hr, Ext.refl _ _ _ _ _, hB, hl, hg⟩
  | load m a k ih =>
    intro s' N h w hr hB hl hg
    cases s' <;> first | exact no (hg (.some _)) | skip
    rename_i m' b k'
    simp only [semL] at hg
    split at hg
    case h_2 => exact no (hg (.some _))
    rename_i n r r' e c hi
    split at hg
    case h_2 => exact no (hg (.some _))
    rename_i hs
    split at hg
    case h_2 => exact no (hg (.some _))
    rename_i v hv
    split at hg
    case h_2 => exact no (hg (.some _))
    rename_i v' hv'
    have hn : a.block = n := by have h0 := (hg (.some _)).1; injection h0 with h0; injection h0 with h0
    have hc := RepB.load (hr.blk _ _ hi) hn hs hv
    simp only [Sem.run, hc]
    exact ih v (k' v') N h w hr hB hl (fun sup => (hg sup).2)
  | store m a v k ih =>
    intro s' N h w hr hB hl hg
    cases s' <;> first | exact no (hg (.some _)) | skip
    rename_i m' b v' k'
    simp only [semL] at hg
    split at hg
    case h_2 => exact no (hg (.some _))
    rename_i n r r' e c hi
    split at hg
    case h_2 => exact no (hg (.some _))
    rename_i hs
    split at hg
    case h_2 => exact no (hg (.some _))
    rename_i u hu
    split at hg
    case h_2 => exact no (hg (.some _))
    rename_i hone
    simp only [Bool.and_eq_true, Nat.ble_eq] at hone
    have hn : a.block = n := by have h0 := (hg (.some _)).1; injection h0 with h0; injection h0 with h0
    have hc := RepB.load (hr.blk _ _ hi) hn hs hu
    have hf := RepB.frozen (a := a) (hr.blk _ _ hi) hn
    simp only [forceL_eq] at hg
    obtain ⟨hr2, hx2⟩ := Rep.store hra hr hi hone.2 hn hs hu v (r'.set b.off v')
    obtain ⟨x, x', N', h', w', h1, h2, h3, h4, h5, h6⟩ := ih k' N _ (w.setCell a v) hr2 (Nat.le_trans hB hx2.below.size) (by simpa using hl) (fun sup => (hg sup).2)
    refine ⟨x, x', N', h', w', ?_, h2, hx2.trans h3, h4, h5, h6⟩
    have hone1 := hone.1
    cases v <;> simp [Sem.run, hc, hf, Value.oneCell'] at hone1 ⊢ <;> exact h1
  | new o k ih =>
    intro s' N h w hr hB hl hg
    cases s' <;> first | exact no (hg (.some _)) | skip
    rename_i o' k'
    simp only [semL] at hg
    split at hg
    case h_2 => exact no (hg (.some _))
    rename_i c c' e ho
    simp only [forceL_eq, forceN_eq] at hg
    cases N with
    | zero =>
      have h0 := hg (.some _)
      simp only [Sup.some, List.replicate_zero] at h0
      exact no h0
    | succ N =>
      have ho' : o = .cells ⟨c⟩ e (0, 0) := by
        unfold cellsNew at ho
        split at ho
        · simp only [Option.some.injEq, Prod.mk.injEq] at ho
          obtain ⟨rfl, _, rfl⟩ := ho
          rfl
        · cases ho
      obtain ⟨hr2, hx2⟩ := Rep.push (ro := ro) hr hB c c' e
      obtain ⟨x, x', N', h', w', h1, h2, h3, h4, h5, h6⟩ := ih w.heap.size (k' h.length) N _ _ hr2 (Nat.le_trans hB hx2.below.size) (by rw [List.length_append]; omega) (fun sup => hg (sup.ahead w.heap.size))
      refine ⟨x, x', N', h', w', ?_, h2, hx2.trans h3, h4, h5, h6⟩
      subst ho'
      exact h1
  | shape a k ih =>
    intro s' N h w hr hB hl hg
    cases s' <;> first | exact no (hg (.some _)) | skip
    rename_i b k'
    simp only [semL] at hg
    split at hg
    case h_2 => exact no (hg (.some _))
    rename_i n r r' e hi
    have hn : a = n := by have h0 := (hg (.some _)).1; injection h0 with h0; injection h0 with h0
    have hc := RepB.shape (hr.blk _ _ hi)
    simp only [Sem.run, hn, hc]
    exact ih _ _ N h w hr hB hl (fun sup => (hg sup).2)
  | freeze a n k ih => intro s' N h w hr hB hl hg; exact no (hg (.some _))
  | frozen a k ih =>
    intro s' N h w hr hB hl hg
    cases s' <;> first | exact no (hg (.some _)) | skip
    rename_i b k'
    simp only [semL] at hg
    split at hg
    case h_2 => exact no (hg (.some _))
    rename_i n r r' e c hi
    have hn : a.block = n := by have h0 := (hg (.some _)).1; injection h0 with h0; injection h0 with h0
    have hc := RepB.frozen (a := a) (hr.blk _ _ hi) hn
    simp only [Sem.run, hc]
    exact ih _ _ N h w hr hB hl (fun sup => (hg sup).2)
  | getObj r k ih => intro s' N h w hr hB hl hg; exact no (hg (.some _))
  | setObj r o k ih => intro s' N h w hr hB hl hg; exact no (hg (.some _))
  | choose q k ih => intro s' N h w hr hB hl hg; exact no (hg (.some _))
  | sys c k ih => intro s' N h w hr hB hl hg; exact no (hg (.some _))
  | program k ih =>
    intro s' N h w hr hB hl hg
    cases s' <;> first | exact no (hg (.some _)) | skip
    exact ih P _ N h w hr hB hl hg
  | mark m k ih =>
    intro s' N h w hr hB hl hg
    cases s' <;> first | exact no (hg (.some _)) | skip
    exact ih _ N h w hr hB hl hg
  | halt x => intro s' N h w hr hB hl hg; exact no (hg (.some _))

/-- Of those that are looked at. -/
def RepV (nv : Bool) (h : List Blk) (w : World) : Prop := ∀ (i : Nat) (b : Blk), h[i]? = some b → (nv && b.vec.isSome) = false → RepB w b
theorem Rep.toV {B ra : Nat} {h : List Blk} {w : World} (hr : Rep B ra h w) (nv : Bool) : RepV nv h w := fun i b hi _ => hr.blk i b hi

theorem semR_sound {P : Program} {α ι : Type} (i0 : ι) (nv : Bool) (h : List Blk) (K : ι → α → α → Res) : ∀ (s s' : Sem α), (∀ i, (semR lock P nv h s s' (K i)).Good) →
    ∃ x x', (∀ w, RepV nv h w → s.run P w = .ok x w) ∧ ∀ i, (K i x x').Good := by
  intro s
  have no : ∀ {p : Prop}, (lock.no : Res).Good → p := fun h => h.elim
  induction s with
  | pure x =>
    intro s' hg
    cases s' <;> first | exact no (hg i0) | skip
    exact ⟨x, _, fun _ _ => rfl, hg⟩
  | load m a k ih =>
    intro s' hg
    cases s' <;> first | exact no (hg i0) | skip
    rename_i m' b k'
    simp only [semR] at hg
    split at hg
    case h_2 => exact no (hg i0)
    rename_i n r r' e c hi
    split at hg
    case h_2 => exact no (hg i0)
    rename_i hnv hs
    split at hg
    case h_2 => exact no (hg i0)
    rename_i v hv
    split at hg
    case h_2 => exact no (hg i0)
    rename_i v' hv'
    have hn : a.block = n := by have h0 := (hg i0).1; injection h0 with h0; injection h0 with h0
    obtain ⟨x, x', h1, h2⟩ := ih v (k' v') (fun i => (hg i).2)
    refine ⟨x, x', fun w hr => ?_, h2⟩
    have hc := RepB.load (hr _ _ hi hnv) hn hs hv
    simp only [Sem.run, hc]
    exact h1 w hr
  | store m a v k ih => intro s' hg; exact no (hg i0)
  | new o k ih => intro s' hg; exact no (hg i0)
  | shape a k ih =>
    intro s' hg
    cases s' <;> first | exact no (hg i0) | skip
    rename_i b k'
    simp only [semR] at hg
    split at hg
    case h_2 => exact no (hg i0)
    rename_i n r r' e hi
    have hn : a = n := by have h0 := (hg i0).1; injection h0 with h0; injection h0 with h0
    obtain ⟨x, x', h1, h2⟩ := ih _ _ (fun i => (hg i).2)
    refine ⟨x, x', fun w hr => ?_, h2⟩
    have hc := RepB.shape (hr _ _ hi (by simp))
    simp only [Sem.run, hn, hc]
    exact h1 w hr
  | freeze a n k ih => intro s' hg; exact no (hg i0)
  | frozen a k ih =>
    intro s' hg
    cases s' <;> first | exact no (hg i0) | skip
    rename_i b k'
    simp only [semR] at hg
    split at hg
    case h_2 => exact no (hg i0)
    rename_i n r r' e c hi
    split at hg
    case h_2 => exact no (hg i0)
    rename_i hnv
    have hn : a.block = n := by have h0 := (hg i0).1; injection h0 with h0; injection h0 with h0
    obtain ⟨x, x', h1, h2⟩ := ih _ _ (fun i => (hg i).2)
    refine ⟨x, x', fun w hr => ?_, h2⟩
    have hc := RepB.frozen (a := a) (hr _ _ hi hnv) hn
    simp only [Sem.run, hc]
    exact h1 w hr
  | getObj r k ih => intro s' hg; exact no (hg i0)
  | setObj r o k ih => intro s' hg; exact no (hg i0)
  | choose q k ih => intro s' hg; exact no (hg i0)
  | sys c k ih => intro s' hg; exact no (hg i0)
  | program k ih =>
    intro s' hg
    cases s' <;> first | exact no (hg i0) | skip
    obtain ⟨x, x', h1, h2⟩ := ih P _ hg
    exact ⟨x, x', fun w hr => h1 w hr, h2⟩
  | mark m k ih =>
    intro s' hg
    cases s' <;> first | exact no (hg i0) | skip
    obtain ⟨x, x', h1, h2⟩ := ih _ hg
    exact ⟨x, x', fun w hr => h1 w hr, h2⟩
  | halt x => intro s' hg; exact no (hg i0)

def evalL (ts : List Value) : Operand → Value
  | .tmp t => (ts[t]?).getD undef
  | .const v => v
  | .global g => .pointer (some ⟨g, 0, none⟩)
  | .func f => .func (.func f) #[] #[]
theorem evalL_eq (ts : List Value) (d : List Deferred) : Act.eval ⟨⟨ts⟩, d⟩ = evalL ts := by
  funext x
  cases x <;> simp [Act.eval, evalL, Array.getD_eq_getD_getElem?]
def putL (ts : List Value) (dst : Option Nat) (v : Value) : List Value :=
  match dst with
  | some d => ts.set d v
  | none => ts
theorem putL_eq (ts : List Value) (d : List Deferred) (dst : Option Nat) (v : Value) : Act.put ⟨⟨ts⟩, d⟩ dst v = ⟨⟨putL ts dst v⟩, d⟩ := by
  cases dst <;> simp [Act.put, putL]

def callOf (o : Oper) : Option (Operand × Array Operand) :=
  match o.op with
  | .call ⟨.value f, args, _⟩ => some (f, args)
  | _ => none
def appOf (o : Oper) : Option (Operand × Operand × TypeId × TypeId) :=
  match o.op with
  | .call ⟨.builtin .append, ⟨[s, x]⟩, ⟨[t, u]⟩⟩ => some (s, x, t, u)
  | _ => none
theorem callOf_spec {o : Oper} {f : Operand} {args : Array Operand} (h : callOf o = some (f, args)) : ∃ ty, o.op = .call ⟨.value f, args, ty⟩ := by
  unfold callOf at h
  split at h
  · rename_i f' a' ty ho
    simp only [Option.some.injEq, Prod.mk.injEq] at h
    obtain ⟨rfl, rfl⟩ := h
    exact ⟨ty, ho⟩
  · cases h
theorem appOf_spec {o : Oper} {s x : Operand} {t u : TypeId} (h : appOf o = some (s, x, t, u)) : o.op = .call ⟨.builtin .append, #[s, x], #[t, u]⟩ := by
  unfold appOf at h
  split at h
  · rename_i s' x' t' u' ho
    simp only [Option.some.injEq, Prod.mk.injEq] at h
    obtain ⟨rfl, rfl, rfl, rfl⟩ := h
    exact ho
  · cases h

/-- What of a slice is appended: its cells, and those of the shadow. -/
def newsOf (h : List Blk) (sz : Nat) (x x' : Value) : Option (Nat × Nat × Nat × List Value × List Value) :=
  match x, x' with
  | .slice (some ⟨b, off, none⟩) m _, .slice (some ⟨b', _, _⟩) _ _ => match h[b']? with
    | some ⟨n, q, q', _, _⟩ => some (b, n, m, (q.drop off).take (m * sz), (q'.drop off).take (m * sz))
    | none => none
  | _, _ => none
def capOf (c : Nat) : Option (Nat × Nat) → Nat
  | none => c
  | some (cap, _) => cap
def fromOf (ro ra : Nat) : Option (Nat × Nat) → Nat
  | none => ro
  | some _ => ra
def vecFits (len n c size : Nat) : Option (Nat × Nat) → Bool
  | none => Nat.beq len (c * size) && Nat.ble n c && Nat.ble c maxLen
  | some (_, sz) => Nat.beq sz size && Nat.beq len (n * size)
def appFits (i : TypeInfo) (z : Value) (n m : Nat) (news : List Value) : Bool :=
  Nat.beq z.cells.size i.size && Nat.blt 0 i.size && Nat.beq news.length (m * i.size) && news.all Value.oneCell' && Nat.ble (n + m) maxLen && Nat.ble ((n + m) * i.bytes) 140737488355328

section
variable {ρ : Type} (M : Mode ρ) (P : Program) (ra ro : Nat)
def evAppend (t u : TypeId) (s s' x x' : Value) (st : St) (K : Value → Value → St → ρ) : ρ :=
  match Nat.beq t u, P.underlying t with
  | true, some (.slice e) => match P.info? e with
    | some i => match i.zero with
      | some z => match newsOf st.heap i.size x x' with
        | some (b, nb, m, news, news') => match s, s' with
          | .slice none n c, _ => match Nat.beq n 0 && Nat.beq c 0 && appFits i z 0 m news && Nat.blt 0 m with
            | true => match st.sup with
              | n1 :: n2 :: sup => M.obs (.map (some b)) (.map (some nb)) (forceL news fun news => forceL news' fun news' => forceL (st.heap ++ [⟨n1, news, news', e, some (n2, i.size)⟩]) fun h =>
                forceN st.heap.length fun k => K (.slice (some ⟨n1, 0, none⟩) m n2) (.slice (some ⟨k, 0, none⟩) m 0) ⟨h, sup⟩)
              | _ => M.no
            | false => M.no
          | .slice (some ⟨g, 0, none⟩) n c, .slice (some ⟨j, _, _⟩) _ _ => match st.heap[j]? with
            | some ⟨nm, r, r', e2, vc⟩ => match appFits i z n m news && Nat.beq e2 e && Nat.ble (fromOf ro ra vc) j && vecFits r.length n c i.size vc with
              | true => match st.sup with
                | n1 :: n2 :: sup => M.obs (.map (some b)) (.map (some nb)) (M.obs (.map (some g)) (.map (some nm)) (M.obs (.map (some c)) (.map (some (capOf c vc)))
                  (forceL (r.take (n * i.size) ++ news) fun xs => forceL (r'.take (n * i.size) ++ news') fun xs' => forceL (st.heap.set j ⟨n1, xs, xs', e, some (n2, i.size)⟩) fun h =>
                    forceN (n + m) fun l => K (.slice (some ⟨n1, 0, none⟩) l n2) (.slice (some ⟨j, 0, none⟩) l 0) ⟨h, sup⟩)))
                | _ => M.no
              | false => M.no
            | none => M.no
          | _, _ => M.no
        | none => M.no
      | none => M.no
    | none => M.no
  | _, _ => M.no
end

theorem newsOf_spec {B ra : Nat} {h : List Blk} {w : World} (hr : Rep B ra h w) {sz b nb m : Nat} {x x' : Value} {news news' : List Value} (hn : newsOf h sz x x' = some (b, nb, m, news, news')) (hb : b = nb) :
    ∃ a c, x = .slice (some a) m c ∧ ∀ (j : Nat) u, news[j]? = some u → w.cell? (a.add j) = some u := by
  unfold newsOf at hn
  split at hn
  case h_2 => cases hn
  rename_i b0 off m0 c0 b' _ _ _ _
  split at hn
  case h_2 => cases hn
  rename_i n q q' e vc hi
  simp only [Option.some.injEq, Prod.mk.injEq] at hn
  obtain ⟨rfl, rfl, rfl, rfl, _⟩ := hn
  refine ⟨_, _, rfl, fun j u hu => ?_⟩
  have hadd : (⟨b0, off, none⟩ : Addr).add j = ⟨b0, off + j, none⟩ := by unfold Addr.add; split <;> simp_all
  rw [hadd]
  rw [List.getElem?_take] at hu
  split at hu
  · rw [List.getElem?_drop] at hu
    exact RepB.load (hr.blk _ _ hi) hb rfl hu
  · cases hu

theorem evAppend_sound {P : Program} {B ra ro : Nat} (hra : ra ≤ ro) {t u ty : TypeId} {s s' x x' : Value} {h : List Blk} {w : World} {K : Value → Value → St → Res} {N : Nat} (hr : Rep B ra h w) (hB : B ≤ w.heap.size) (hl : ro ≤ h.length)
    (hg : ∀ sup : Sup N, (evAppend lock P ra ro t u s s' x x' ⟨h, sup.1⟩ K).Good) :
    ∃ v v' N' h' w', (Builtin.append_ #[t, u] ty #[s, x]).run P w = .ok v w' ∧ Rep B ra h' w' ∧ Ext B ra ro h w h' w' ∧ B ≤ w'.heap.size ∧ ro ≤ h'.length ∧ ∀ sup : Sup N', (K v v' ⟨h', sup.1⟩).Good := by
  have no : ∀ {p : Prop}, (lock.no : Res).Good → p := fun h => h.elim
  simp only [evAppend] at hg
  split at hg
  case h_2 => exact no (hg (.some _))
  rename_i e htu hund
  obtain rfl : t = u := by simpa using htu
  split at hg
  case h_2 => exact no (hg (.some _))
  rename_i i hi
  split at hg
  case h_2 => exact no (hg (.some _))
  rename_i z hz
  split at hg
  case h_2 => exact no (hg (.some _))
  rename_i b nb m news news' hnews
  split at hg
  · rename_i n c
    split at hg
    case h_2 => exact no (hg (.some _))
    rename_i hfit
    simp only [forceL_eq, forceN_eq] at hg
    obtain ⟨N, rfl⟩ : ∃ M, N = M + 1 + 1 := by
      match N, hg with
      | 0, hg => exact no (by have h0 := hg (.some _); simp only [Sup.some, List.replicate_zero] at h0; exact h0)
      | 1, hg => exact no (by have h0 := hg (.some _); simp only [Sup.some, List.replicate_succ, List.replicate_zero] at h0; exact h0)
      | M + 2, _ => exact ⟨M, rfl⟩
    have hg : ∀ (n1 n2 : Nat) (sup : Sup N), _ := fun n1 n2 sup => hg ((sup.ahead n2).ahead n1)
    simp only [Sup.ahead] at hg
    have hbn : b = nb := by have h0 := (hg 0 0 (.some _)).1; injection h0 with h0; injection h0 with h0
    simp only [Bool.and_eq_true, Nat.beq_eq, appFits, Nat.blt_eq, Nat.ble_eq, Nat.zero_add] at hfit
    obtain ⟨⟨⟨rfl, rfl⟩, ⟨⟨⟨⟨hf1, hf2⟩, hf3⟩, hf4⟩, hf5⟩, hf6⟩, hm⟩ := hfit
    obtain ⟨a, c, rfl, hcells⟩ := newsOf_spec hr hnews hbn
    obtain ⟨v', w', h1, h2, h3, h4, h5⟩ := run_append_own_at (P := P) (w := w) B t ty e i z i.size i.bytes hund hi hz rfl rfl hf1 hf2 (.slice none 0 0) 0 [] (World.ownsRow_nil _ _ _ _) a m c news hf3 hcells (by simpa using hf4) (by simpa using hf5) (by simpa using hf6) hB
    obtain ⟨hlen, hown⟩ := h2
    rcases hown with ⟨_, hz0⟩ | ⟨g, cap, cur, rfl, hbg, hgg, hnc, hcm, hcs, htake⟩
    · omega
    · have hge : g = w.heap.size := by simpa [Value.ownBlock] using h5
      subst hge
      have hx : w'.heap.size ≥ w.heap.size := h3.size
      have hcur : news ++ cur.toList.drop (m * i.size) = cur.toList := by
        have := List.take_append_drop (m * i.size) cur.toList
        simp only [Nat.zero_add, List.nil_append] at htake
        rw [htake] at this
        exact this
      have hbel : Below w.heap.size w w' := ⟨h3.os, h3.tape, h3.output, h3.size, fun k hk => h3.block k hk (by simp [Value.ownBlock])⟩
      have hr' := hr.mono hbel
      have get : ∀ (j : Nat) (b : Blk), (h ++ [(⟨w.heap.size, news, news', e, some (cap, i.size)⟩ : Blk)])[j]? = some b → (j = h.length ∧ b = ⟨w.heap.size, news, news', e, some (cap, i.size)⟩) ∨ (j < h.length ∧ h[j]? = some b) := by
        intro j b hj
        rw [List.getElem?_append] at hj
        split at hj
        · exact .inr ⟨by assumption, hj⟩
        · have h1 := (List.getElem?_eq_some_iff.1 hj).1
          simp at h1
          have h2 : j = h.length := by omega
          subst h2
          simp at hj
          exact .inl ⟨rfl, hj.symm⟩
      refine ⟨_, .slice (some ⟨h.length, 0, none⟩) m 0, N, h ++ [⟨w.heap.size, news, news', e, some (cap, i.size)⟩], w', h1, ⟨?_, ?_, ?_⟩, ⟨hbel.mono hB, fun i b hi hb => .inl ⟨by rw [List.getElem?_append_left (List.getElem?_eq_some_iff.1 hb).1]; exact hb, hbel.block _ (RepB.lt (hr.blk i b hb))⟩⟩, by omega, by rw [List.length_append]; omega, fun sup => ?_⟩
      · intro j b hj
        rcases get j b hj with ⟨rfl, rfl⟩ | ⟨hlt, hb⟩
        · refine ⟨cur.toList.drop (m * i.size), ?_, (fun h => by cases h), fun cap' sz h => ?_⟩
          · rw [hcur]; exact hgg
          · simp only [Option.some.injEq, Prod.mk.injEq] at h
            obtain ⟨rfl, rfl⟩ := h
            refine ⟨?_, hcm⟩
            have := congrArg List.length hcur
            simp only [List.length_append, Array.length_toList] at this
            simp only []
            omega
        · exact hr'.blk j b hb
      · intro j b hj hle
        rcases get j b hj with ⟨rfl, rfl⟩ | ⟨hlt, hb⟩
        · exact hB
        · exact hr.own j b hb hle
      · intro j k b d hj hk hjk
        rcases get j b hj with ⟨rfl, rfl⟩ | ⟨hlt, hb⟩
        · rcases get k d hk with ⟨rfl, rfl⟩ | ⟨hlt', hd⟩
          · exact absurd rfl hjk
          · have := RepB.lt (hr.blk k d hd); simp; omega
        · rcases get k d hk with ⟨rfl, rfl⟩ | ⟨hlt', hd⟩
          · have := RepB.lt (hr.blk j b hb); simp; omega
          · exact hr.diff j k b d hb hd hjk
      · have := (hg w.heap.size cap sup).2
        have e0 : 0 + m = m := Nat.zero_add m
        rw [e0]
        exact this
  · rename_i g n c j _ _ _ _
    split at hg
    case h_2 => exact no (hg (.some _))
    rename_i nm r r' e2 vc hj
    split at hg
    case h_2 => exact no (hg (.some _))
    rename_i hfit
    simp only [forceL_eq, forceN_eq] at hg
    obtain ⟨N, rfl⟩ : ∃ M, N = M + 1 + 1 := by
      match N, hg with
      | 0, hg => exact no (by have h0 := hg (.some _); simp only [Sup.some, List.replicate_zero] at h0; exact h0)
      | 1, hg => exact no (by have h0 := hg (.some _); simp only [Sup.some, List.replicate_succ, List.replicate_zero] at h0; exact h0)
      | M + 2, _ => exact ⟨M, rfl⟩
    have hg : ∀ (n1 n2 : Nat) (sup : Sup N), _ := fun n1 n2 sup => hg ((sup.ahead n2).ahead n1)
    simp only [Sup.ahead] at hg
    have hbn : b = nb := by have h0 := (hg 0 0 (.some _)).1; injection h0 with h0; injection h0 with h0
    have hgn : g = nm := by have h0 := (hg 0 0 (.some _)).2.1; injection h0 with h0; injection h0 with h0
    have hcc : c = capOf c vc := by have h0 := (hg 0 0 (.some _)).2.2.1; injection h0 with h0; injection h0 with h0
    simp only [Bool.and_eq_true, Nat.beq_eq, appFits, Nat.blt_eq, Nat.ble_eq] at hfit
    obtain ⟨⟨⟨⟨⟨⟨⟨⟨hf1, hf2⟩, hf3⟩, hf4⟩, hf5⟩, hf6⟩, rfl⟩, hro⟩, hvc⟩ := hfit
    obtain ⟨a, c2, rfl, hcells⟩ := newsOf_spec hr hnews hbn
    subst hgn
    obtain ⟨rest, hq, hq1, hq2⟩ := hr.blk j _ hj
    simp only [] at hq hq1 hq2
    have hraj : ra ≤ j := by cases vc <;> simp only [fromOf] at hro <;> omega
    have hBg : B ≤ g := hr.own j _ hj hraj
    have hlt : g < w.heap.size := RepB.lt (hr.blk j _ hj)
    have hjlt : j < h.length := (List.getElem?_eq_some_iff.1 hj).1
    have facts : n * i.size ≤ r.length ∧ n ≤ c ∧ c ≤ maxLen ∧ r.length + rest.length = c * i.size := by
      cases vc with
      | none =>
        simp only [vecFits, Bool.and_eq_true, Nat.beq_eq, Nat.ble_eq] at hvc
        obtain ⟨⟨ha, hb2⟩, hc⟩ := hvc
        have := hq1 rfl
        subst this
        refine ⟨?_, hb2, hc, by simpa using ha⟩
        rw [ha]; exact Nat.mul_le_mul_right _ hb2
      | some p =>
        obtain ⟨cap, sz⟩ := p
        simp only [vecFits, Bool.and_eq_true, Nat.beq_eq] at hvc
        simp only [capOf] at hcc
        obtain ⟨rfl, ha⟩ := hvc
        subst hcc
        obtain ⟨hs1, hs2⟩ := hq2 _ _ rfl
        refine ⟨by omega, ?_, hs2, hs1⟩
        have : n * i.size ≤ c * i.size := by omega
        exact Nat.le_of_mul_le_mul_right this hf2
    obtain ⟨k1, k2, k3, k4⟩ := facts
    have hown : w.ownsRow B e2 i.size (.slice (some ⟨g, 0, none⟩) n c) n (r.take (n * i.size)) := by
      refine ⟨by simp; omega, .inr ⟨g, c, _, rfl, hBg, hq, k2, k3, by simpa using k4, ?_⟩⟩
      simp [List.take_append_of_le_length k1]
    obtain ⟨v', w', h1, h2, h3, h4, h5⟩ := run_append_own_at (P := P) (w := w) B t ty e2 i z i.size i.bytes hund hi hz rfl rfl hf1 hf2 (.slice (some ⟨g, 0, none⟩) n c) n _ hown a m c2 news hf3 hcells (by simpa using hf4) hf5 hf6 hB
    obtain ⟨hlen, hown'⟩ := h2
    rcases hown' with ⟨rfl, _⟩ | ⟨g', cap, cur, rfl, hbg, hgg, hnc, hcm, hcs, htake⟩
    · have := (h4.1 rfl).1
      cases this
    · have hge : g' = g ∨ g' = w.heap.size := by simpa [Value.ownBlock] using h5
      have hx : w.heap.size ≤ w'.heap.size := h3.size
      have hcur : (r.take (n * i.size) ++ news) ++ cur.toList.drop ((n + m) * i.size) = cur.toList := by
        have := List.take_append_drop ((n + m) * i.size) cur.toList
        rw [htake] at this
        exact this
      have hbel : Below B w w' := Below.grown (Below.refl _ _) h3 hB (fun k hk => by simp [Value.ownBlock] at hk; omega)
      have old : ∀ (k : Nat) (b : Blk), k ≠ j → h[k]? = some b → RepB w' b := fun k b hk hb => by
        obtain ⟨q2, hq3, hq4⟩ := hr.blk k b hb
        refine ⟨q2, ?_, hq4⟩
        rw [h3.block b.name (RepB.lt (hr.blk k b hb)) (by
          have := hr.diff k j b _ hb hj hk
          simp only [Value.ownBlock, ne_eq, Option.some.injEq]
          exact this)]
        exact hq3
      have fresh : ∀ (k : Nat) (b : Blk), k ≠ j → h[k]? = some b → b.name ≠ g' := fun k b hk hb => by
        rcases hge with rfl | rfl
        · exact hr.diff k j b _ hb hj hk
        · have := RepB.lt (hr.blk k b hb); omega
      have get : ∀ (k : Nat) (b : Blk), (h.set j ⟨g', r.take (n * i.size) ++ news, r'.take (n * i.size) ++ news', e2, some (cap, i.size)⟩)[k]? = some b →
          (k = j ∧ b = ⟨g', r.take (n * i.size) ++ news, r'.take (n * i.size) ++ news', e2, some (cap, i.size)⟩) ∨ (k ≠ j ∧ h[k]? = some b) := by
        intro k b hk
        rw [List.getElem?_set] at hk
        by_cases hij : j = k
        · subst hij
          simp [hjlt] at hk
          exact .inl ⟨rfl, hk.symm⟩
        · simp only [hij, if_false] at hk
          exact .inr ⟨fun e => hij e.symm, hk⟩
      refine ⟨_, .slice (some ⟨j, 0, none⟩) (n + m) 0, N, h.set j ⟨g', r.take (n * i.size) ++ news, r'.take (n * i.size) ++ news', e2, some (cap, i.size)⟩, w', h1, ⟨?_, ?_, ?_⟩, ⟨hbel, ?_⟩, by omega, by simpa using hl, fun sup => ?_⟩
      · intro k b hk
        rcases get k b hk with ⟨rfl, rfl⟩ | ⟨hne, hb⟩
        · refine ⟨cur.toList.drop ((n + m) * i.size), ?_, (fun h => by cases h), fun cap' sz h => ?_⟩
          · rw [hcur]; exact hgg
          · simp only [Option.some.injEq, Prod.mk.injEq] at h
            obtain ⟨rfl, rfl⟩ := h
            refine ⟨?_, hcm⟩
            have := congrArg List.length hcur
            rw [List.length_append, Array.length_toList] at this
            exact this.trans hcs
        · exact old k b hne hb
      · intro k b hk hle
        rcases get k b hk with ⟨rfl, rfl⟩ | ⟨hne, hb⟩
        · exact hbg
        · exact hr.own k b hb hle
      · intro k l b d hk hl' hkl
        rcases get k b hk with ⟨rfl, rfl⟩ | ⟨hne, hb⟩
        · rcases get l d hl' with ⟨rfl, rfl⟩ | ⟨hne', hd⟩
          · exact absurd rfl hkl
          · exact (fresh l d hne' hd).symm
        · rcases get l d hl' with ⟨rfl, rfl⟩ | ⟨hne', hd⟩
          · exact fresh k b hne hb
          · exact hr.diff k l b d hb hd hkl
      · intro k b hk hb
        by_cases hjk : k = j
        · subst hjk
          have hv : vc ≠ none := by
            intro hv
            subst hv
            simp only [fromOf] at hro
            omega
          obtain rfl : (⟨g, r, r', e2, vc⟩ : Blk) = b := Option.some.inj (hj.symm.trans hb)
          refine .inr ⟨hraj, hv, ⟨g', r.take (n * i.size) ++ news, r'.take (n * i.size) ++ news', e2, some (cap, i.size)⟩, ?_, by simp⟩
          rw [List.getElem?_set]
          simp [hjlt]
        · refine .inl ⟨?_, ?_⟩
          · rw [List.getElem?_set]
            have : ¬ j = k := fun e => hjk e.symm
            simp [this, hb]
          · exact h3.block b.name (RepB.lt (hr.blk k b hb)) (by
              have := hr.diff k j b _ hb hj hjk
              simp only [Value.ownBlock, ne_eq, Option.some.injEq]
              exact this)
      · exact (hg g' cap sup).2.2.2
  · exact no (hg (.some _))
end Go.Proofs.YtemfhipofgafiaaGreatDoor.Ev
