/- CALLS THAT ARE KNOWN BY THEIR CONTRACTS, as the evaluator takes them. -/
import Derived.Test.YtemfhipofgafiaaGreatDoorEnv
import Derived.Test.YtemfhipofgafiaaGreatDoorItem
import Derived.Test.YtemfhipofgafiaaGreatDoorMean
set_option linter.unusedVariables false
set_option linter.unusedSimpArgs false
namespace Go.Proofs.YtemfhipofgafiaaGreatDoor.Ev
open Go Go.RowKit
def inI64 (x : Int) : Bool := decide (-9223372036854775808 ≤ x) && decide (x < 9223372036854775808)
def inU32 (x : Int) : Bool := decide (0 ≤ x) && decide (x < 4294967296)
def inD32 (x : Int) : Bool := decide (0 < x) && decide (x < 4294967296)
theorem inU64_ok {x : Int} (h : inU64 x = true) : U64 x := by simp only [inU64, Bool.and_eq_true, decide_eq_true_eq] at h; unfold U64 P64; omega
theorem inI64_ok {x : Int} (h : inI64 x = true) : I64 x := by simp only [inI64, Bool.and_eq_true, decide_eq_true_eq] at h; unfold I64 P63; omega
theorem inU32_ok {x : Int} (h : inU32 x = true) : U32 x := by simp only [inU32, Bool.and_eq_true, decide_eq_true_eq] at h; unfold U32; omega
theorem inD32_ok {x : Int} (h : inD32 x = true) : 0 < x ∧ x < 4294967296 := by simpa only [inD32, Bool.and_eq_true, decide_eq_true_eq] using h

/-- A table of known calls. -/
def first : List (Nat × (List Value → Option Value)) → Nat → List Value → Option Value
  | [], _, _ => none
  | (n, f) :: l, g, a => match Nat.beq n g with
    | true => f a
    | false => first l g a
def OneOk (P : Program) (p : Nat × (List Value → Option Value)) : Prop :=
  (∀ args w, (callFunc p.1 args).run P w = .ok (.enter p.1 args) w) ∧ ∀ a v, p.2 a = some v → ∀ w, Calls P p.1 ⟨a⟩ w (Ret w v)
def TabOk (P : Program) : List (Nat × (List Value → Option Value)) → Prop
  | [] => True
  | p :: l => OneOk P p ∧ TabOk P l
theorem first_ok {P : Program} : ∀ {l : List (Nat × (List Value → Option Value))}, TabOk P l → ZOk P (first l)
  | [], _ => fun g a v h => by cases h
  | (n, f) :: l, hl => fun g a v h => by
    simp only [first] at h
    split at h
    · rename_i hb
      obtain rfl : n = g := by simpa using hb
      obtain ⟨h1, h2⟩ := hl.1
      exact ⟨fun w => h1 _ w, fun w => h2 a v h w⟩
    · exact first_ok hl.2 g a v h
def isTrue (a : List Value) : Option Value :=
  match a with
  | [] => some (.bool true)
  | _ => none
theorem isTrue_ok {P : Program} {g : Nat} (h1 : ∀ args w, (callFunc g args).run P w = .ok (.enter g args) w) (h2 : ∀ w, Calls P g #[] w (Ret w (.bool true))) : OneOk P (g, isTrue) :=
  ⟨h1, fun a v h w => by
    cases a with
    | nil => simp only [isTrue, Option.some.injEq] at h; subst h; exact h2 w
    | cons x l => simp [isTrue] at h⟩

def kAhead (l : List Value) : Option Value :=
  match l with
  | [.agg ⟨[.int .u64 t, .int .u32 r, .int .u32 x, .int .i64 i, .int .u64 u, .int .u32 s, .int .u32 y]⟩, .agg ⟨[.int .u64 t2, .int .u32 r2, .int .u32 x2, .int .i64 i2, .int .u64 u2, .int .u32 s2, .int .u32 y2]⟩] => match inU32 r && inU32 x && inU32 r2 && inU32 x2 with
    | true => some (.bool (aheadB t r x i t2 r2 x2 i2))
    | false => none
  | _ => none
theorem kAhead_ok : OneOk Tryz.prog (148, kAhead) := ⟨Tryz.call148, fun l v h w => by
  replace h : kAhead l = some v := h
  show Calls _ _ _ _ _
  unfold kAhead at h
  split at h
  case h_2 => cases h
  split at h
  case h_2 => cases h
  rename_i hb
  simp only [Bool.and_eq_true] at hb
  obtain ⟨⟨⟨hr, hx⟩, hr2⟩, hx2⟩ := hb
  simp only [Option.some.injEq] at h
  subst h
  exact item_Ahead _ _ _ _ _ _ _ _ _ _ _ _ _ _ w (inU32_ok hr) (inU32_ok hx) (inU32_ok hr2) (inU32_ok hx2)⟩
def kDue (l : List Value) : Option Value :=
  match l with
  | [.agg ⟨[.int .u64 t, .int .u32 r, .int .u32 x, .int .i64 i, .int .u64 u, .int .u32 s, .int .u32 y]⟩, .agg ⟨[.int .u64 t2, .int .u32 r2, .int .u32 x2, .int .i64 i2, .int .u64 u2, .int .u32 s2, .int .u32 y2]⟩] => match inU32 r && inU32 x && inU32 r2 && inU32 x2 && inU32 s && inU32 y && inU32 s2 && inU32 y2 with
    | true => some (.bool (dueB t r x i u s y t2 r2 x2 i2 u2 s2 y2))
    | false => none
  | _ => none
theorem kDue_ok : OneOk Tryz.prog (166, kDue) := ⟨Tryz.call166, fun l v h w => by
  replace h : kDue l = some v := h
  show Calls _ _ _ _ _
  unfold kDue at h
  split at h
  case h_2 => cases h
  split at h
  case h_2 => cases h
  rename_i hb
  simp only [Bool.and_eq_true] at hb
  obtain ⟨⟨⟨⟨⟨⟨⟨hr, hx⟩, hr2⟩, hx2⟩, hs⟩, hy⟩, hs2⟩, hy2⟩ := hb
  simp only [Option.some.injEq] at h
  subst h
  exact item_Due _ _ _ _ _ _ _ _ _ _ _ _ _ _ w (inU32_ok hr) (inU32_ok hx) (inU32_ok hr2) (inU32_ok hx2) (inU32_ok hs) (inU32_ok hy) (inU32_ok hs2) (inU32_ok hy2)⟩
def kPCmp (l : List Value) : Option Value :=
  match l with
  | [.agg ⟨[.int .u64 t, .int .u32 r, .int .u32 x]⟩, .agg ⟨[.int .u64 t2, .int .u32 r2, .int .u32 x2]⟩] => match inU32 r && inU32 x && inU32 r2 && inU32 x2 with
    | true => some (.int .i64 (posCmp t r x t2 r2 x2))
    | false => none
  | _ => none
theorem kPCmp_ok : OneOk Tryz.prog (160, kPCmp) := ⟨Tryz.call160, fun l v h w => by
  replace h : kPCmp l = some v := h
  show Calls _ _ _ _ _
  unfold kPCmp at h
  split at h
  case h_2 => cases h
  split at h
  case h_2 => cases h
  rename_i hb
  simp only [Bool.and_eq_true] at hb
  obtain ⟨⟨⟨hr, hx⟩, hr2⟩, hx2⟩ := hb
  simp only [Option.some.injEq] at h
  subst h
  exact pos_Cmp _ _ _ _ _ _ w (inU32_ok hr) (inU32_ok hx) (inU32_ok hr2) (inU32_ok hx2)⟩
def kDist (l : List Value) : Option Value :=
  match l with
  | [.agg ⟨[.int .u64 t, .int .u32 r, .int .u32 x]⟩, .int .u64 b] => match inU32 r && inU32 x with
    | true => some (.agg #[.int .i64 (hiI (dist t r x b)), .int .u64 (loI (dist t r x b))])
    | false => none
  | _ => none
theorem kDist_ok : OneOk Tryz.prog (76, kDist) := ⟨Tryz.call76, fun l v h w => by
  replace h : kDist l = some v := h
  show Calls _ _ _ _ _
  unfold kDist at h
  split at h
  case h_2 => cases h
  split at h
  case h_2 => cases h
  rename_i hb
  simp only [Bool.and_eq_true] at hb
  obtain ⟨hr, hx⟩ := hb
  simp only [Option.some.injEq] at h
  subst h
  exact pos_Distance _ _ _ _ w (inU32_ok hr) (inU32_ok hx)⟩
def kAt (l : List Value) : Option Value :=
  match l with
  | [.int .u64 t, .agg ⟨[.int .i64 a, .int .u64 b]⟩, .int .u32 x] => match inI64 a && inU64 b && inU32 x with
    | true => some (.tuple #[(.agg #[.int .u64 (onlyV (atB (val a b) x) (addT t (val a b / x))), .int .u32 (onlyV (atB (val a b) x) (val a b % x)), .int .u32 (onlyV (atB (val a b) x) x)]), .bool (atB (val a b) x)])
    | false => none
  | _ => none
theorem kAt_ok : OneOk Tryz.prog (97, kAt) := ⟨Tryz.call97, fun l v h w => by
  replace h : kAt l = some v := h
  show Calls _ _ _ _ _
  unfold kAt at h
  split at h
  case h_2 => cases h
  split at h
  case h_2 => cases h
  rename_i hb
  simp only [Bool.and_eq_true] at hb
  obtain ⟨⟨ha, hb⟩, hx⟩ := hb
  simp only [Option.some.injEq] at h
  subst h
  exact pos_At _ _ _ _ w (inI64_ok ha) (inU64_ok hb) (inU32_ok hx)⟩
def kWMul (l : List Value) : Option Value :=
  match l with
  | [.agg ⟨[.int .i64 a, .int .u64 b]⟩, .int .i64 c] => match inI64 a && inU64 b && inI64 c with
    | true => some (.tuple #[.agg #[.int .i64 (hiI (sel (val a b * c))), .int .u64 (loI (sel (val a b * c)))], .bool (inWB (val a b * c))])
    | false => none
  | _ => none
theorem kWMul_ok : OneOk Tryz.prog (96, kWMul) := ⟨Tryz.call96, fun l v h w => by
  replace h : kWMul l = some v := h
  show Calls _ _ _ _ _
  unfold kWMul at h
  split at h
  case h_2 => cases h
  split at h
  case h_2 => cases h
  rename_i hb
  simp only [Bool.and_eq_true] at hb
  obtain ⟨⟨ha, hb⟩, hc⟩ := hb
  simp only [Option.some.injEq] at h
  subst h
  exact wide_Mul _ _ _ w (inI64_ok ha) (inU64_ok hb) (inI64_ok hc)⟩
def kWAdd (l : List Value) : Option Value :=
  match l with
  | [.agg ⟨[.int .i64 a, .int .u64 b]⟩, .agg ⟨[.int .i64 c, .int .u64 d]⟩] => match inI64 a && inU64 b && inI64 c && inU64 d with
    | true => some (.tuple #[.agg #[.int .i64 (hiI (sel (val a b + val c d))), .int .u64 (loI (sel (val a b + val c d)))], .bool (inWB (val a b + val c d))])
    | false => none
  | _ => none
theorem kWAdd_ok : OneOk Tryz.prog (100, kWAdd) := ⟨Tryz.call100, fun l v h w => by
  replace h : kWAdd l = some v := h
  show Calls _ _ _ _ _
  unfold kWAdd at h
  split at h
  case h_2 => cases h
  split at h
  case h_2 => cases h
  rename_i hb
  simp only [Bool.and_eq_true] at hb
  obtain ⟨⟨⟨ha, hb⟩, hc⟩, hd⟩ := hb
  simp only [Option.some.injEq] at h
  subst h
  exact wide_Add _ _ _ _ w (inI64_ok ha) (inU64_ok hb) (inI64_ok hc) (inU64_ok hd)⟩
def kWSub (l : List Value) : Option Value :=
  match l with
  | [.agg ⟨[.int .i64 a, .int .u64 b]⟩, .agg ⟨[.int .i64 c, .int .u64 d]⟩] => match inI64 a && inU64 b && inI64 c && inU64 d with
    | true => some (.tuple #[.agg #[.int .i64 (hiI (sel (val a b - val c d))), .int .u64 (loI (sel (val a b - val c d)))], .bool (inWB (val a b - val c d))])
    | false => none
  | _ => none
theorem kWSub_ok : OneOk Tryz.prog (46, kWSub) := ⟨Tryz.call46, fun l v h w => by
  replace h : kWSub l = some v := h
  show Calls _ _ _ _ _
  unfold kWSub at h
  split at h
  case h_2 => cases h
  split at h
  case h_2 => cases h
  rename_i hb
  simp only [Bool.and_eq_true] at hb
  obtain ⟨⟨⟨ha, hb⟩, hc⟩, hd⟩ := hb
  simp only [Option.some.injEq] at h
  subst h
  exact wide_Sub _ _ _ _ w (inI64_ok ha) (inU64_ok hb) (inI64_ok hc) (inU64_ok hd)⟩
def kWDiv (l : List Value) : Option Value :=
  match l with
  | [.agg ⟨[.int .i64 a, .int .u64 b]⟩, .int .u64 c] => match inI64 a && inU64 b && inD32 c with
    | true => some (.tuple #[.agg #[.int .i64 (hiI (val a b / c)), .int .u64 (loI (val a b / c))], .int .u64 (val a b % c), .bool true])
    | false => none
  | _ => none
theorem kWDiv_ok : OneOk Tryz.prog (81, kWDiv) := ⟨Tryz.call81, fun l v h w => by
  replace h : kWDiv l = some v := h
  show Calls _ _ _ _ _
  unfold kWDiv at h
  split at h
  case h_2 => cases h
  split at h
  case h_2 => cases h
  rename_i hb
  simp only [Bool.and_eq_true] at hb
  obtain ⟨⟨ha, hb⟩, hc⟩ := hb
  simp only [Option.some.injEq] at h
  subst h
  exact wide_Div _ _ _ w (inI64_ok ha) (inU64_ok hb) (inD32_ok hc).1 (inD32_ok hc).2⟩
def kWCmp (l : List Value) : Option Value :=
  match l with
  | [.agg ⟨[.int .i64 a, .int .u64 b]⟩, .agg ⟨[.int .i64 c, .int .u64 d]⟩] => match inU64 b && inU64 d with
    | true => some (.int .i64 (cmpI (val a b) (val c d)))
    | false => none
  | _ => none
theorem kWCmp_ok : OneOk Tryz.prog (109, kWCmp) := ⟨Tryz.call109, fun l v h w => by
  replace h : kWCmp l = some v := h
  show Calls _ _ _ _ _
  unfold kWCmp at h
  split at h
  case h_2 => cases h
  split at h
  case h_2 => cases h
  rename_i hb
  simp only [Bool.and_eq_true] at hb
  obtain ⟨hb, hd⟩ := hb
  simp only [Option.some.injEq] at h
  subst h
  exact wide_Cmp _ _ _ _ w (inU64_ok hb) (inU64_ok hd)⟩
def kWNeg (l : List Value) : Option Value :=
  match l with
  | [.agg ⟨[.int .i64 a, .int .u64 b]⟩] => match inI64 a && inU64 b with
    | true => some (.tuple #[.agg #[.int .i64 (hiI (sel (-val a b))), .int .u64 (loI (sel (-val a b)))], .bool (inWB (-val a b))])
    | false => none
  | _ => none
theorem kWNeg_ok : OneOk Tryz.prog (104, kWNeg) := ⟨Tryz.call104, fun l v h w => by
  replace h : kWNeg l = some v := h
  show Calls _ _ _ _ _
  unfold kWNeg at h
  split at h
  case h_2 => cases h
  split at h
  case h_2 => cases h
  rename_i hb
  simp only [Bool.and_eq_true] at hb
  obtain ⟨ha, hb⟩ := hb
  simp only [Option.some.injEq] at h
  subst h
  exact wide_Neg _ _ w (inI64_ok ha) (inU64_ok hb)⟩
def kMAdd (l : List Value) : Option Value :=
  match l with
  | [.agg ⟨[.int .u64 t, .int .i64 a, .int .u64 b, .int .u64 x, .int .i64 n]⟩, .agg ⟨[.int .u64 u, .int .u32 r, .int .u32 y]⟩] => match inI64 a && inU64 b && inI64 n && inU32 r && inU32 y with
    | true => some (.tuple #[(.agg #[.int .u64 (onlyV (addB (val a b) x n r y (dist u r y t)) t), .int .i64 (hiI (onlyV (addB (val a b) x n r y (dist u r y t)) (val a b + dist u r y t))), .int .u64 (loI (onlyV (addB (val a b) x n r y (dist u r y t)) (val a b + dist u r y t))), .int .u64 (onlyV (addB (val a b) x n r y (dist u r y t)) (x + y)), .int .i64 (onlyV (addB (val a b) x n r y (dist u r y t)) (n + 1))]), .bool (addB (val a b) x n r y (dist u r y t))])
    | false => none
  | _ => none
theorem kMAdd_ok : OneOk Tryz.prog (73, kMAdd) := ⟨Tryz.call73, fun l v h w => by
  replace h : kMAdd l = some v := h
  show Calls _ _ _ _ _
  unfold kMAdd at h
  split at h
  case h_2 => cases h
  split at h
  case h_2 => cases h
  rename_i hb
  simp only [Bool.and_eq_true] at hb
  obtain ⟨⟨⟨⟨ha, hb⟩, hn⟩, hr⟩, hy⟩ := hb
  simp only [Option.some.injEq] at h
  subst h
  exact mean_Add _ _ _ _ _ _ _ _ w (inI64_ok ha) (inU64_ok hb) (inI64_ok hn) (inU32_ok hr) (inU32_ok hy)⟩
def kMFloor (l : List Value) : Option Value :=
  match l with
  | [.agg ⟨[.int .u64 t, .int .i64 a, .int .u64 b, .int .u64 x, .int .i64 n]⟩] => match inI64 a && inU64 b && inI64 n with
    | true => some (.tuple #[.int .u64 (onlyV (floorB (val a b) x n) (addT t (val a b / x))), .bool (floorB (val a b) x n)])
    | false => none
  | _ => none
theorem kMFloor_ok : OneOk Tryz.prog (48, kMFloor) := ⟨Tryz.call48, fun l v h w => by
  replace h : kMFloor l = some v := h
  show Calls _ _ _ _ _
  unfold kMFloor at h
  split at h
  case h_2 => cases h
  split at h
  case h_2 => cases h
  rename_i hb
  simp only [Bool.and_eq_true] at hb
  obtain ⟨⟨ha, hb⟩, hn⟩ := hb
  simp only [Option.some.injEq] at h
  subst h
  exact mean_Floor _ _ _ _ _ w (inI64_ok ha) (inU64_ok hb) (inI64_ok hn)⟩
def kMRight (l : List Value) : Option Value :=
  match l with
  | [.agg ⟨[.int .u64 t, .int .i64 a, .int .u64 b, .int .u64 x, .int .i64 n]⟩] => match inU64 b && inI64 n with
    | true => some (.bool (meanOK (val a b) x n))
    | false => none
  | _ => none
theorem kMRight_ok : OneOk Tryz.prog (75, kMRight) := ⟨Tryz.call75, fun l v h w => by
  replace h : kMRight l = some v := h
  show Calls _ _ _ _ _
  unfold kMRight at h
  split at h
  case h_2 => cases h
  split at h
  case h_2 => cases h
  rename_i hb
  simp only [Bool.and_eq_true] at hb
  obtain ⟨hb, hn⟩ := hb
  simp only [Option.some.injEq] at h
  subst h
  exact mean_Right _ _ _ _ _ w (inU64_ok hb) (inI64_ok hn)⟩
def kPRight (l : List Value) : Option Value :=
  match l with
  | [.agg ⟨[.int .u64 t, .int .u32 r, .int .u32 x]⟩] => match true with
    | true => some (.bool (posOK r x))
    | false => none
  | _ => none
theorem kPRight_ok : OneOk Tryz.prog (33, kPRight) := ⟨Tryz.call33, fun l v h w => by
  replace h : kPRight l = some v := h
  show Calls _ _ _ _ _
  unfold kPRight at h
  split at h
  case h_2 => cases h
  simp only [Option.some.injEq] at h
  subst h
  exact pos_Right _ _ _ w⟩
def contracts : List (Nat × (List Value → Option Value)) := [(148, kAhead), (166, kDue), (160, kPCmp), (76, kDist), (97, kAt), (96, kWMul), (100, kWAdd), (46, kWSub), (81, kWDiv), (109, kWCmp), (104, kWNeg), (73, kMAdd), (48, kMFloor), (75, kMRight), (33, kPRight)]
theorem contracts_ok : TabOk Tryz.prog contracts := ⟨kAhead_ok, kDue_ok, kPCmp_ok, kDist_ok, kAt_ok, kWMul_ok, kWAdd_ok, kWSub_ok, kWDiv_ok, kWCmp_ok, kWNeg_ok, kMAdd_ok, kMFloor_ok, kMRight_ok, kPRight_ok, trivial⟩
end Go.Proofs.YtemfhipofgafiaaGreatDoor.Ev
