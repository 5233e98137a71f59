/- WORDS OF MY OWN: numbers, how a call that only makes memory answers, small arithmetic. -/
import Derived.Test.YtemfhipofgafiaaGreatDoorProg
import Derived.WalkKit
import Derived.Handy
import Derived.Below
import Derived.KernelRfl
import Derived.Laws.Externs
import Derived.Lib.Hide
import Derived.Laws.StructEq
import Derived.Deep.QuietTactic
import Derived.BigQuiet
import Derived.Deep.RegionHeld3
set_option linter.unusedVariables false
namespace Go.Proofs.YtemfhipofgafiaaGreatDoor
open Go.RowKit

/-- The call answers V; what was there is as it was. -/
def Ret (w : World) (V : Value) (e : Ending) (w' : World) : Prop := e = .returned V ∧ Below w.heap.size w w'

def P64 : Int := 18446744073709551616
def P63 : Int := 9223372036854775808
def P127 : Int := 170141183460469231731687303715884105728
def I64 (x : Int) : Prop := -P63 ≤ x ∧ x < P63
def U64 (x : Int) : Prop := 0 ≤ x ∧ x < P64
def U32 (x : Int) : Prop := 0 ≤ x ∧ x < 4294967296
/-- The number that two halves are; the halves of a number. -/
def val (hi lo : Int) : Int := hi * P64 + lo
def hiI (z : Int) : Int := wrap64 (z / P64)
def loI (z : Int) : Int := z % P64
def InW (z : Int) : Prop := -P127 ≤ z ∧ z < P127
def inWB (z : Int) : Bool := decide (-P127 ≤ z) && decide (z < P127)
/-- The number if it is a wide one, else 0. -/
def sel (z : Int) : Int := if inWB z = true then z else 0

theorem inWB_iff (z : Int) : inWB z = true ↔ InW z := by simp [inWB, InW]
theorem inWB_true {z : Int} (h : InW z) : inWB z = true := (inWB_iff z).2 h
theorem inWB_false {z : Int} (h : ¬ InW z) : inWB z = false := by
  cases e : inWB z with
  | false => rfl
  | true => exact absurd ((inWB_iff z).1 e) h
theorem sel_of {z : Int} (h : InW z) : sel z = z := by simp [sel, inWB_true h]
theorem sel_not {z : Int} (h : ¬ InW z) : sel z = 0 := by simp [sel, inWB_false h]
theorem InW_zero : InW 0 := by unfold InW P127; omega
theorem InW_sel (z : Int) : InW (sel z) := by
  unfold sel
  split
  · exact (inWB_iff z).1 ‹_›
  · exact InW_zero
theorem InW_val {a b : Int} (ha : I64 a) (hb : U64 b) : InW (val a b) := by
  unfold InW val; unfold I64 at ha; unfold U64 at hb; unfold P127 at *; unfold P63 at *; unfold P64 at *; omega
theorem U64_lo (z : Int) : U64 (loI z) := by unfold U64 loI P64; omega
theorem I64_wrap (x : Int) : I64 (wrap64 x) := by unfold I64 wrap64 P63; omega
theorem I64_hi (z : Int) : I64 (hiI z) := I64_wrap _
theorem U64_wrap (x : Int) : U64 (IntKind.u64.wrap x) := by rw [IntKind.wrap_u64]; unfold U64 P64; omega
theorem U32_wrap (x : Int) : U32 (IntKind.u32.wrap x) := by rw [IntKind.wrap_u32]; unfold U32; omega
theorem val_hi_lo {z : Int} (h : InW z) : val (hiI z) (loI z) = z := by
  unfold val hiI loI wrap64; unfold InW at h; unfold P127 at h; unfold P64; omega
theorem hi_val {a b : Int} (ha : I64 a) (hb : U64 b) : hiI (val a b) = a := by
  unfold hiI val wrap64; unfold I64 at ha; unfold U64 at hb; unfold P63 at ha; unfold P64 at *; omega
theorem lo_val {a b : Int} (hb : U64 b) : loI (val a b) = b := by
  unfold loI val; unfold U64 at hb; unfold P64 at *; omega
theorem hi_zero : hiI 0 = 0 := by unfold hiI wrap64 P64; omega
theorem lo_zero : loI 0 = 0 := by unfold loI P64; omega
theorem val_zero : val 0 0 = 0 := by unfold val; omega

theorem wrap64_id {x : Int} (h : I64 x) : wrap64 x = x := by unfold wrap64; unfold I64 P63 at h; omega
theorem wrapU64 (x : Int) : IntKind.u64.wrap x = x % P64 := by rw [IntKind.wrap_u64]; rfl
theorem wrapU64_id {x : Int} (h : U64 x) : IntKind.u64.wrap x = x := by rw [wrapU64]; unfold U64 P64 at *; omega
theorem wrapU32_id {x : Int} (h : U32 x) : IntKind.u32.wrap x = x := by rw [IntKind.wrap_u32]; unfold U32 at h; omega

/-- Blocks' numbers. -/
@[simp, go_sem] theorem nlt2 (n : Nat) : n < n + 1 + 1 := by omega
@[simp, go_sem] theorem nlt3 (n : Nat) : n < n + 1 + 1 + 1 := by omega
@[simp, go_sem] theorem nlt4 (n : Nat) : n < n + 1 + 1 + 1 + 1 := by omega
@[simp, go_sem] theorem nlt5 (n : Nat) : n < n + 1 + 1 + 1 + 1 + 1 := by omega
@[simp, go_sem] theorem nlt6 (n : Nat) : n < n + 1 + 1 + 1 + 1 + 1 + 1 := by omega
@[simp, go_sem] theorem nlt7 (n : Nat) : n < n + 1 + 1 + 1 + 1 + 1 + 1 + 1 := by omega
@[simp, go_sem] theorem nlt8 (n : Nat) : n < n + 1 + 1 + 1 + 1 + 1 + 1 + 1 + 1 := by omega

/-- After a call: the old cells read as they did. -/
theorem bcell {W w1 : World} (hb : Below W.heap.size W w1) : (∀ b o, b < W.heap.size → w1.cell? ⟨b, o, none⟩ = W.cell? ⟨b, o, none⟩) ∧ (∀ b o, b < W.heap.size → w1.frozen? ⟨b, o, none⟩ = W.frozen? ⟨b, o, none⟩) :=
  ⟨fun b o h => hb.cell (p := ⟨b, o, none⟩) h, fun b o h => hb.frozen (p := ⟨b, o, none⟩) h⟩
theorem bcellB {B : Nat} {W w1 : World} (hb : Below B W w1) : (∀ b o, b < B → w1.cell? ⟨b, o, none⟩ = W.cell? ⟨b, o, none⟩) ∧ (∀ b o, b < B → w1.frozen? ⟨b, o, none⟩ = W.frozen? ⟨b, o, none⟩) :=
  ⟨fun b o h => hb.cell (p := ⟨b, o, none⟩) h, fun b o h => hb.frozen (p := ⟨b, o, none⟩) h⟩
/-- What one call leaves, and what the next one does. -/
theorem bthen {B : Nat} {w W w1 : World} (k : Below W.heap.size W w1) (h : Below B w W) (hB : B ≤ W.heap.size) : Below B w w1 := h.trans (k.mono hB)
theorem kcell {W w1 : World} (hb : Below W.heap.size W w1) {a : Addr} {v : Value} (h : W.cell? a = some v) : w1.cell? a = some v := (hb.cell (World.block_lt_of_cell? W a h)).trans h
theorem kalloc {W : World} {o : Obj} {a : Addr} {v : Value} (h : W.cell? a = some v) : (W.alloc o).cell? a = some v := (World.cell?_alloc_lt W o a (World.block_lt_of_cell? W a h)).trans h
theorem kdrew {W : World} {a : Addr} {v : Value} (h : W.cell? a = some v) : W.drew.cell? a = some v := h
theorem kbelow {w W w1 : World} (hb : Below W.heap.size W w1) (h : Below w.heap.size w W) : Below w.heap.size w w1 := bthen hb h h.size
theorem belowN {B : Nat} {a w : World} (h : Below B a w) (n : Nat) : Below B a (w.drewN n) := ⟨h.os, h.tape, h.output, h.size, h.block⟩
theorem bsize {W w1 : World} (hb : Below W.heap.size W w1) : W.heap.size ≤ w1.heap.size := hb.size

/-- math/bits.Add64, Sub64: the model's own. -/
def lo3 (x y c : Int) : Int := (x + y + c) % P64
def hi3 (x y c : Int) : Int := (x + y + c) / P64
def los (x y c : Int) : Int := (x - y - c) % P64
def bor (x y c : Int) : Int := if x < y + c then 1 else 0
def Carry (c : Int) : Prop := c = 0 ∨ c = 1
theorem Carry_zero : Carry 0 := .inl rfl
theorem U64_lo3 (x y c : Int) : U64 (lo3 x y c) := by unfold U64 lo3 P64; omega
theorem U64_los (x y c : Int) : U64 (los x y c) := by unfold U64 los P64; omega
theorem Carry_hi3 {x y c : Int} (hx : U64 x) (hy : U64 y) (hc : Carry c) : Carry (hi3 x y c) := by
  unfold hi3; unfold U64 at hx hy; unfold Carry at *; unfold P64 at *; omega
theorem Carry_bor (x y c : Int) : Carry (bor x y c) := by unfold bor Carry; split <;> simp

theorem run_add {x y c : Int} (hx : U64 x) (hy : U64 y) (hc : Carry c) (w : World) :
    (callFunc 125 #[.int .u64 x, .int .u64 y, .int .u64 c]).run Tryz.prog w = .ok (.value (.tuple #[.int .u64 (lo3 x y c), .int .u64 (hi3 x y c)])) w := by
  rw [run_callFunc_extern (P := Tryz.prog) (f := 125) (fn := Tryz.f125) (e := add64Entry) (by kernel_rfl) (by kernel_rfl) (by kernel_rfl) (by kernel_rfl) (by kernel_rfl)]
  rw [run_add64 x y c hx.1 hy.1 (by unfold Carry at hc; omega) (by unfold Carry at hc; omega) w]
  rfl

def sub64Entry : Array Value → Sem Value := fun args => do
  let (x, y, b) ← Extern.MathBitsCarry.three "Sub64" args
  pure (Extern.MathBitsCarry.pair ((x + Extern.MathBitsCarry.m64 - y - b) % Extern.MathBitsCarry.m64) (if x < y + b then 1 else 0))

theorem run_sub64 {P : Program} (x y c : Nat) (hx : x < 18446744073709551616) (hy : y < 18446744073709551616) (hc : c ≤ 1) (w : World) :
    (sub64Entry #[.int .u64 x, .int .u64 y, .int .u64 c]).run P w = .ok (.tuple #[.int .u64 (los x y c), .int .u64 (bor x y c)]) w := by
  have key : (sub64Entry #[.int .u64 (x : Int), .int .u64 (y : Int), .int .u64 (c : Int)]).run P w =
      .ok (Extern.MathBitsCarry.pair ((x + Extern.MathBitsCarry.m64 - y - c) % Extern.MathBitsCarry.m64) (if x < y + c then 1 else 0)) w := by
    have : c = 0 ∨ c = 1 := by omega
    rcases this with rfl | rfl <;> rfl
  rw [key]
  have e1 : Int.ofNat ((x + Extern.MathBitsCarry.m64 - y - c) % Extern.MathBitsCarry.m64) = los x y c := by
    have : Extern.MathBitsCarry.m64 = 18446744073709551616 := rfl
    rw [this]
    unfold los P64
    have h : ((x + 18446744073709551616 - y - c : Nat) : Int) = (x : Int) + 18446744073709551616 - y - c := by omega
    rw [show Int.ofNat ((x + 18446744073709551616 - y - c) % 18446744073709551616) = ((x + 18446744073709551616 - y - c : Nat) : Int) % 18446744073709551616 from by simp]
    rw [h]
    omega
  have e2 : Int.ofNat (if x < y + c then 1 else 0) = bor x y c := by
    unfold bor
    by_cases h : x < y + c
    · rw [if_pos h, if_pos (by omega)]; rfl
    · rw [if_neg h, if_neg (by omega)]; rfl
  unfold Extern.MathBitsCarry.pair
  rw [e1, e2]

theorem run_sub {x y c : Int} (hx : U64 x) (hy : U64 y) (hc : Carry c) (w : World) :
    (callFunc 101 #[.int .u64 x, .int .u64 y, .int .u64 c]).run Tryz.prog w = .ok (.value (.tuple #[.int .u64 (los x y c), .int .u64 (bor x y c)])) w := by
  rw [run_callFunc_extern (P := Tryz.prog) (f := 101) (fn := Tryz.f101) (e := sub64Entry) (by kernel_rfl) (by kernel_rfl) (by kernel_rfl) (by kernel_rfl) (by kernel_rfl)]
  obtain ⟨X, rfl⟩ := Int.eq_ofNat_of_zero_le hx.1
  obtain ⟨Y, rfl⟩ := Int.eq_ofNat_of_zero_le hy.1
  have hc' : 0 ≤ c := by unfold Carry at hc; omega
  obtain ⟨C, rfl⟩ := Int.eq_ofNat_of_zero_le hc'
  have h1 := hx.2
  have h2 := hy.2
  unfold P64 at h1 h2
  rw [run_sub64 X Y C (by omega) (by omega) (by unfold Carry at hc; omega) w]
  rfl

/-- '==' of two structs, by their fields in order. -/
theorem eqStruct {P : Program} {t : TypeId} {fs : Array Field} {xs ys : Array Value} {r : Bool} {w : World} {d : Nat} (hu : P.underlying t = some (.struct fs)) (hp : P.stoodInHeld t = false)
    (h : (Op.eqFields d xs ys fs.toList).run P w = .ok r w) : (Op.equalIn (d + 1) t (.agg xs) (.agg ys)).run P w = .ok r w := by
  have hf : P.fieldsOf t = fs := by simp [Program.fieldsOf, hu]
  rw [run_equalIn_struct (P := P) w d t xs ys (by rw [hf]; exact hu) hp, hf]
  exact h
/-- '==' of two wide numbers. -/
theorem eqA_wide (x0 y0 x1 y1 : Int) (w : World) :
    (Op.equalIn 10000 34 (.agg #[.int .i64 x0, .int .u64 x1]) (.agg #[.int .i64 y0, .int .u64 y1])).run Tryz.prog w = .ok (x0 == y0 && x1 == y1) w := by
  refine eqStruct Tryz.underlying34 (by kernel_rfl) ?_
  by_cases e : x0 = y0
  · subst e
    simp only [Op.eqFields, go_sem]
    go_simp
    by_cases e2 : x1 = y1
    · rw [if_pos e2]; subst e2; simp
    · rw [if_neg e2]; simp [e2]
  · simp only [Op.eqFields, go_sem]
    go_simp
attribute [go_sem high] eqA_wide
/-! ### the parts of a value -/
theorem eqW {h1 l1 h2 l2 : Int} (e1 : h1 = h2) (e2 : l1 = l2) : Value.agg #[.int .i64 h1, .int .u64 l1] = Value.agg #[.int .i64 h2, .int .u64 l2] := by subst e1 e2; rfl
theorem eqWB {h1 l1 h2 l2 : Int} {b1 b2 : Bool} (e1 : h1 = h2) (e2 : l1 = l2) (e3 : b1 = b2) : Value.tuple #[.agg #[.int .i64 h1, .int .u64 l1], .bool b1] = Value.tuple #[.agg #[.int .i64 h2, .int .u64 l2], .bool b2] := by subst e1 e2 e3; rfl
theorem eqWUB {h1 l1 h2 l2 u1 u2 : Int} {b1 b2 : Bool} (e1 : h1 = h2) (e2 : l1 = l2) (e0 : u1 = u2) (e3 : b1 = b2) : Value.tuple #[.agg #[.int .i64 h1, .int .u64 l1], .int .u64 u1, .bool b1] = Value.tuple #[.agg #[.int .i64 h2, .int .u64 l2], .int .u64 u2, .bool b2] := by subst e1 e2 e0 e3; rfl
theorem eqRet {v1 v2 : Value} (e : v1 = v2) : Ending.returned v1 = Ending.returned v2 := by rw [e]

theorem U64_zero : U64 0 := by unfold U64 P64; omega
/-- How great, without the sign. -/
def siz (z : Int) : Int := if z < 0 then -z else z

theorem neg_fits {a b : Int} (ha : I64 a) (hb : U64 b) : InW (-val a b) ↔ ¬ (a = -9223372036854775808 ∧ b = 0) := by
  unfold I64 at ha; unfold U64 at hb; unfold InW val; unfold P127 P63 P64 at *; omega

/-! ### sums and differences of halves -/
theorem add_lo (a b c d : Int) : lo3 b d 0 = loI (val a b + val c d) := by unfold lo3 loI val P64; omega
theorem add_hi {a b c d : Int} (hb : U64 b) (hd : U64 d) : wrap64 (lo3 (IntKind.u64.wrap a) (IntKind.u64.wrap c) (hi3 b d 0)) = hiI (val a b + val c d) := by
  rw [wrapU64, wrapU64]; unfold U64 at hb hd; unfold lo3 hi3 hiI val wrap64; unfold P64 at *; omega
theorem sub_lo (a b c d : Int) : los b d 0 = loI (val a b - val c d) := by unfold los loI val P64; omega
theorem sub_hi {a b c d : Int} (hb : U64 b) (hd : U64 d) : wrap64 (los (IntKind.u64.wrap a) (IntKind.u64.wrap c) (bor b d 0)) = hiI (val a b - val c d) := by
  rw [wrapU64, wrapU64]; unfold U64 at hb hd
  unfold bor
  split
  all_goals (unfold los hiI val wrap64; unfold P64 at *; omega)
theorem add_same {a b c d : Int} (ha : I64 a) (hb : U64 b) (hc : I64 c) (hd : U64 d) (h : a < 0 ↔ c < 0) :
    InW (val a b + val c d) ↔ (a < 0 ↔ hiI (val a b + val c d) < 0) := by
  unfold I64 at ha hc; unfold U64 at hb hd; unfold InW hiI val wrap64; unfold P127 P63 P64 at *; omega
theorem add_other {a b c d : Int} (ha : I64 a) (hb : U64 b) (hc : I64 c) (hd : U64 d) (h : ¬ (a < 0 ↔ c < 0)) : InW (val a b + val c d) := by
  unfold I64 at ha hc; unfold U64 at hb hd; unfold InW val; unfold P127 P63 P64 at *; omega
theorem sub_same {a b c d : Int} (ha : I64 a) (hb : U64 b) (hc : I64 c) (hd : U64 d) (h : ¬ (a < 0 ↔ c < 0)) :
    InW (val a b - val c d) ↔ (a < 0 ↔ hiI (val a b - val c d) < 0) := by
  unfold I64 at ha hc; unfold U64 at hb hd; unfold InW hiI val wrap64; unfold P127 P63 P64 at *; omega
theorem sub_other {a b c d : Int} (ha : I64 a) (hb : U64 b) (hc : I64 c) (hd : U64 d) (h : (a < 0 ↔ c < 0)) : InW (val a b - val c d) := by
  unfold I64 at ha hc; unfold U64 at hb hd; unfold InW val; unfold P127 P63 P64 at *; omega
theorem flip_eq {p q : Prop} [Decidable p] [Decidable q] (h : (!decide p == decide q) = true) : ¬ (p ↔ q) := by
  by_cases hp : p <;> by_cases hq : q <;> simp [hp, hq] at h ⊢
theorem flip_ne {p q : Prop} [Decidable p] [Decidable q] (h : (!decide p == decide q) = false) : (p ↔ q) := by
  by_cases hp : p <;> by_cases hq : q <;> simp [hp, hq] at h ⊢
end Go.Proofs.YtemfhipofgafiaaGreatDoor
