/- THE WALKS of package wide: Mul, Div. -/
import Derived.Test.YtemfhipofgafiaaGreatDoorWideB
import Derived.Test.YtemfhipofgafiaaGreatDoorDiv
set_option linter.unusedVariables false
set_option linter.unusedSimpArgs false
namespace Go.Proofs.YtemfhipofgafiaaGreatDoor
open Go.RowKit


theorem siz_nonneg (z : Int) : 0 ≤ siz z := by unfold siz; split <;> omega
theorem siz_le {z : Int} (h : InW z) : siz z ≤ P127 := by unfold InW at h; unfold siz; split <;> omega
/-- The halves of a size. -/
def hiU (z : Int) : Int := IntKind.u64.wrap (hiI z)
theorem hiU_siz {z : Int} (h : InW z) : hiU (siz z) * P64 + loI (siz z) = siz z ∧ U64 (hiU (siz z)) ∧ hiU (siz z) ≤ P63 := by
  have h1 := siz_nonneg z
  have h2 := siz_le h
  unfold hiU hiI loI wrap64 U64; rw [wrapU64]
  unfold P127 at h2; unfold P64 P63; omega

def sH (a b : Int) : Int := hiU (siz (val a b))
def sL (a b : Int) : Int := loI (siz (val a b))
def sM (c : Int) : Int := loI (siz c)
def mOver (a b c : Int) : Int := sH a b * sM c / P64
def mHigh (a b c : Int) : Int := sH a b * sM c % P64
def mUp (a b c : Int) : Int := sL a b * sM c / P64
def mLow (a b c : Int) : Int := sL a b * sM c % P64
theorem U64_mod (x : Int) : U64 (x % P64) := by unfold U64 P64; omega
theorem U64_mulhi {x y : Int} (hx : U64 x) (hy : U64 y) : U64 (x * y / P64) := by
  unfold U64 at *
  have h1 : 0 ≤ x * y := Int.mul_nonneg hx.1 hy.1
  have h2 : x * y ≤ x * P64 := Int.mul_le_mul_of_nonneg_left (by omega) hx.1
  unfold P64 at *; omega
theorem U64_sH {a b : Int} (ha : I64 a) (hb : U64 b) : U64 (sH a b) := (hiU_siz (InW_val ha hb)).2.1
theorem I64_InW {c : Int} (h : I64 c) : InW c := by unfold I64 P63 at h; unfold InW P127; omega
theorem sM_spec {c : Int} (h : I64 c) : sM c = siz c ∧ U64 (sM c) := by
  unfold I64 P63 at h; unfold sM loI siz U64 P64; split <;> omega
theorem siz_mul (x y : Int) : siz (x * y) = siz x * siz y := by
  unfold siz
  by_cases hx : x < 0 <;> by_cases hy : y < 0
  · rw [if_neg (by have := Int.mul_pos_of_neg_of_neg hx hy; omega), if_pos hx, if_pos hy, Int.neg_mul_neg]
  · by_cases h0 : y = 0
    · subst h0; simp
    · rw [if_pos (Int.mul_neg_of_neg_of_pos hx (by omega)), if_pos hx, if_neg hy, Int.neg_mul]
  · by_cases h0 : x = 0
    · subst h0; simp
    · rw [if_pos (Int.mul_neg_of_pos_of_neg (by omega) hy), if_neg hx, if_pos hy, Int.mul_neg]
  · rw [if_neg (by have := Int.mul_nonneg (show 0 ≤ x by omega) (show 0 ≤ y by omega); omega), if_neg hx, if_neg hy]

/-- What the multiplication comes to. -/
theorem mul_plain {a b c : Int} (ha : I64 a) (hb : U64 b) (hc : I64 c) :
    (¬ (mOver a b c = 0 ∧ hi3 (mHigh a b c) (mUp a b c) 0 = 0) → ¬ InW (val a b * c)) ∧
    (mOver a b c = 0 → hi3 (mHigh a b c) (mUp a b c) 0 = 0 →
      val (lo3 (mHigh a b c) (mUp a b c) 0) (mLow a b c) = siz (val a b * c)) := by
  obtain ⟨e, h1, h2⟩ := hiU_siz (InW_val ha hb)
  obtain ⟨e3, h3⟩ := sM_spec hc
  have e4 : siz (val a b * c) = (sH a b * P64 + sL a b) * sM c := by rw [siz_mul, e3]; unfold sH sL; rw [e]
  rw [Int.add_mul, Int.mul_assoc, Int.mul_comm P64, ← Int.mul_assoc] at e4
  have n1 : 0 ≤ sH a b * sM c := Int.mul_nonneg h1.1 h3.1
  have n2 : 0 ≤ sL a b * sM c := Int.mul_nonneg (U64_lo _).1 h3.1
  have k : siz (val a b * c) < 170141183460469231731687303715884105728 + 170141183460469231731687303715884105728 ∨ ¬ InW (val a b * c) := by
    by_cases h : InW (val a b * c)
    · left; have := siz_le h; unfold P127 at this; omega
    · exact .inr h
  have k2 : InW (val a b * c) → siz (val a b * c) ≤ 170141183460469231731687303715884105728 := fun h => by have := siz_le h; unfold P127 at this; exact this
  unfold mOver mHigh mUp mLow hi3 lo3 val at *
  generalize sH a b * sM c = X at *
  generalize sL a b * sM c = Y at *
  unfold P64 at *
  refine ⟨fun h hw => ?_, fun h h' => ?_⟩
  · have := k2 hw
    rw [e4] at this
    omega
  · rw [e4]
    omega

def sgn (n : Bool) (z : Int) : Int := if n then -z else z
theorem sign_sel (a b c : Int) (hb : U64 b) : sgn (!decide (a < 0) == decide (c < 0)) (siz (val a b * c)) = val a b * c := by
  unfold sgn
  have ha : (a < 0) = (val a b < 0) := by unfold U64 at hb; unfold val P64 at *; apply propext; omega
  simp only [ha]
  generalize val a b = x
  rw [siz_mul]
  unfold siz
  by_cases hx : x < 0 <;> by_cases hc : c < 0 <;> simp [hx, hc, Int.neg_mul, Int.mul_neg]

set_option maxHeartbeats 1000000 in
set_option maxRecDepth 100000 in
theorem wide_Mul (a b c : Int) (w : World) (ha : I64 a) (hb : U64 b) (hc : I64 c) :
    Calls Tryz.prog 96 #[.agg #[.int .i64 a, .int .u64 b], .int .i64 c] w
      (Ret w (.tuple #[.agg #[.int .i64 (hiI (sel (val a b * c))), .int .u64 (loI (sel (val a b * c)))], .bool (inWB (val a b * c))])) := by
  have z1 : ∀ w, Calls Tryz.prog 120 #[.agg #[.int .i64 a, .int .u64 b]] w (Ret w (.tuple #[.int .u64 (sH a b), .int .u64 (sL a b)])) := fun w => wide_size a b w ha hb
  have z2 : ∀ w, Calls Tryz.prog 120 #[.agg #[.int .i64 (hiI c), .int .u64 (loI c)]] w (Ret w (.tuple #[.int .u64 (hiU (siz c)), .int .u64 (sM c)])) := fun w => by
    have := wide_size (hiI c) (loI c) w (I64_hi _) (U64_lo _)
    rw [val_hi_lo (I64_InW hc)] at this
    exact this
  have u1 := U64_sH ha hb
  have u2 : U64 (sL a b) := U64_lo _
  have u3 := (sM_spec hc).2
  have z3 : ∀ w, Calls Tryz.prog 129 #[.int .u64 (sH a b), .int .u64 (sM c)] w (Ret w (.tuple #[.int .u64 (mOver a b c), .int .u64 (mHigh a b c)])) := fun w => bits_Mul64 _ _ w u1 u3
  have z4 : ∀ w, Calls Tryz.prog 129 #[.int .u64 (sL a b), .int .u64 (sM c)] w (Ret w (.tuple #[.int .u64 (mUp a b c), .int .u64 (mLow a b c)])) := fun w => bits_Mul64 _ _ w u2 u3
  have v1 : U64 (mHigh a b c) := U64_mod _
  have v2 : U64 (mUp a b c) := U64_mulhi u2 u3
  have v3 : U64 (mLow a b c) := U64_mod _
  have z5 := fun w => run_add v1 v2 Carry_zero w
  obtain ⟨p1, p2⟩ := mul_plain ha hb hc
  have z6 : ∀ n w, Calls Tryz.prog 130 #[.int .u64 (lo3 (mHigh a b c) (mUp a b c) 0), .int .u64 (mLow a b c), .bool n] w
      (Ret w (.tuple #[.agg #[.int .i64 (hiI (sel (sgn n (val (lo3 (mHigh a b c) (mUp a b c) 0) (mLow a b c))))), .int .u64 (loI (sel (sgn n (val (lo3 (mHigh a b c) (mUp a b c) 0) (mLow a b c)))))], .bool (inWB (sgn n (val (lo3 (mHigh a b c) (mUp a b c) 0) (mLow a b c))))])) :=
    fun n w => wide_signed (lo3 (mHigh a b c) (mUp a b c) 0) (mLow a b c) n w (U64_lo3 _ _ _) v3
  have Z1 := Lib.hid z1; have Z2 := Lib.hid z2; have Z3 := Lib.hid z3; have Z4 := Lib.hid z4; have Z6 := Lib.hid z6
  have P1 := Lib.hid p1; have P2 := Lib.hid p2
  have S := Lib.hid (sign_sel a b c hb)
  clear z1 z2 z3 z4 z6 p1 p2 u1 u2 u3 v1 v2 v3
  by_cases h1 : mOver a b c = 0
  · by_cases h2 : hi3 (mHigh a b c) (mUp a b c) 0 = 0
    · have E := Lib.hid (P2.out h1 h2)
      have b1 : (mOver a b c != 0) = false := by simpa using h1
      have b2 : (hi3 (mHigh a b c) (mUp a b c) 0 != 0) = false := by simpa using h2
      clear h1 h2
      go_enter Tryz.func96, Tryz.ntmps96
      go_wp2_with fail
      refine (Z1.out _).mono ?_
      rintro e w1 ⟨rfl, hb1⟩
      obtain ⟨hc1, hf1⟩ := bcell hb1
      try simp only [World.heap_drewN, World.cell?_drewN] at hc1
      try simp only [World.heap_drewN, World.frozen?_drewN] at hf1
      have hz1 := bsize hb1
      try simp only [World.size_alloc, World.size_setCell, World.size_drew, World.heap_drewN] at hz1
      try (have hs0 : w.heap.size < w1.heap.size := by omega)
      try (have hs1 : w.heap.size + 1 < w1.heap.size := by omega)
      try (have hs2 : w.heap.size + 2 < w1.heap.size := by omega)
      try (have hs3 : w.heap.size + 3 < w1.heap.size := by omega)
      go_wp2_with fail
      refine (wide_Of c _ hc).mono ?_
      rintro e w1 ⟨rfl, hb1⟩
      obtain ⟨hc1, hf1⟩ := bcell hb1
      try simp only [World.heap_drewN, World.cell?_drewN] at hc1
      try simp only [World.heap_drewN, World.frozen?_drewN] at hf1
      have hz1 := bsize hb1
      try simp only [World.size_alloc, World.size_setCell, World.size_drew, World.heap_drewN] at hz1
      try (have hs0 : w.heap.size < w1.heap.size := by omega)
      try (have hs1 : w.heap.size + 1 < w1.heap.size := by omega)
      try (have hs2 : w.heap.size + 2 < w1.heap.size := by omega)
      try (have hs3 : w.heap.size + 3 < w1.heap.size := by omega)
      go_wp2_with fail
      refine (Z2.out _).mono ?_
      rintro e w1 ⟨rfl, hb1⟩
      obtain ⟨hc1, hf1⟩ := bcell hb1
      try simp only [World.heap_drewN, World.cell?_drewN] at hc1
      try simp only [World.heap_drewN, World.frozen?_drewN] at hf1
      have hz1 := bsize hb1
      try simp only [World.size_alloc, World.size_setCell, World.size_drew, World.heap_drewN] at hz1
      try (have hs0 : w.heap.size < w1.heap.size := by omega)
      try (have hs1 : w.heap.size + 1 < w1.heap.size := by omega)
      try (have hs2 : w.heap.size + 2 < w1.heap.size := by omega)
      try (have hs3 : w.heap.size + 3 < w1.heap.size := by omega)
      go_wp2_with fail
      refine (Z3.out _).mono ?_
      rintro e w1 ⟨rfl, hb1⟩
      obtain ⟨hc1, hf1⟩ := bcell hb1
      try simp only [World.heap_drewN, World.cell?_drewN] at hc1
      try simp only [World.heap_drewN, World.frozen?_drewN] at hf1
      have hz1 := bsize hb1
      try simp only [World.size_alloc, World.size_setCell, World.size_drew, World.heap_drewN] at hz1
      try (have hs0 : w.heap.size < w1.heap.size := by omega)
      try (have hs1 : w.heap.size + 1 < w1.heap.size := by omega)
      try (have hs2 : w.heap.size + 2 < w1.heap.size := by omega)
      try (have hs3 : w.heap.size + 3 < w1.heap.size := by omega)
      go_wp2_with fail
      refine (Z4.out _).mono ?_
      rintro e w1 ⟨rfl, hb1⟩
      obtain ⟨hc1, hf1⟩ := bcell hb1
      try simp only [World.heap_drewN, World.cell?_drewN] at hc1
      try simp only [World.heap_drewN, World.frozen?_drewN] at hf1
      have hz1 := bsize hb1
      try simp only [World.size_alloc, World.size_setCell, World.size_drew, World.heap_drewN] at hz1
      try (have hs0 : w.heap.size < w1.heap.size := by omega)
      try (have hs1 : w.heap.size + 1 < w1.heap.size := by omega)
      try (have hs2 : w.heap.size + 2 < w1.heap.size := by omega)
      try (have hs3 : w.heap.size + 3 < w1.heap.size := by omega)
      go_wp2_with fail
      refine (Z6.out _ _).mono ?_
      rintro e w1 ⟨rfl, hb1⟩
      obtain ⟨hc1, hf1⟩ := bcell hb1
      try simp only [World.heap_drewN, World.cell?_drewN] at hc1
      try simp only [World.heap_drewN, World.frozen?_drewN] at hf1
      have hz1 := bsize hb1
      try simp only [World.size_alloc, World.size_setCell, World.size_drew, World.heap_drewN] at hz1
      try (have hs0 : w.heap.size < w1.heap.size := by omega)
      try (have hs1 : w.heap.size + 1 < w1.heap.size := by omega)
      try (have hs2 : w.heap.size + 2 < w1.heap.size := by omega)
      try (have hs3 : w.heap.size + 3 < w1.heap.size := by omega)
      go_wp2_with fail
      refine bodyPost_ret (by simp [*, results, Tryz.results96, go_sem]; try rfl) rfl ?_
      refine ⟨eqRet ?_, by (repeat' (first | (with_reducible exact Below.refl _ _) | (with_reducible refine Below.alloc ?_ ?_ _) | (with_reducible refine Below.setCell ?_ ?_ _) | (with_reducible refine Below.drew ?_) | (with_reducible refine belowN ?_ _) | (with_reducible refine bthen (by assumption) ?_ ?_) | omega | (simp only [World.size_alloc, World.size_setCell, World.size_drew, World.heap_drewN] at *; omega) | (simp; omega)))⟩
      rw [E.out, S.out]
    · have E := Lib.hid (P1.out (fun h => h2 h.2))
      have b1 : (mOver a b c != 0) = false := by simpa using h1
      have b2 : (hi3 (mHigh a b c) (mUp a b c) 0 != 0) = true := by simpa using h2
      clear h1 h2
      go_enter Tryz.func96, Tryz.ntmps96
      go_wp2_with fail
      refine (Z1.out _).mono ?_
      rintro e w1 ⟨rfl, hb1⟩
      obtain ⟨hc1, hf1⟩ := bcell hb1
      try simp only [World.heap_drewN, World.cell?_drewN] at hc1
      try simp only [World.heap_drewN, World.frozen?_drewN] at hf1
      have hz1 := bsize hb1
      try simp only [World.size_alloc, World.size_setCell, World.size_drew, World.heap_drewN] at hz1
      try (have hs0 : w.heap.size < w1.heap.size := by omega)
      try (have hs1 : w.heap.size + 1 < w1.heap.size := by omega)
      try (have hs2 : w.heap.size + 2 < w1.heap.size := by omega)
      try (have hs3 : w.heap.size + 3 < w1.heap.size := by omega)
      go_wp2_with fail
      refine (wide_Of c _ hc).mono ?_
      rintro e w1 ⟨rfl, hb1⟩
      obtain ⟨hc1, hf1⟩ := bcell hb1
      try simp only [World.heap_drewN, World.cell?_drewN] at hc1
      try simp only [World.heap_drewN, World.frozen?_drewN] at hf1
      have hz1 := bsize hb1
      try simp only [World.size_alloc, World.size_setCell, World.size_drew, World.heap_drewN] at hz1
      try (have hs0 : w.heap.size < w1.heap.size := by omega)
      try (have hs1 : w.heap.size + 1 < w1.heap.size := by omega)
      try (have hs2 : w.heap.size + 2 < w1.heap.size := by omega)
      try (have hs3 : w.heap.size + 3 < w1.heap.size := by omega)
      go_wp2_with fail
      refine (Z2.out _).mono ?_
      rintro e w1 ⟨rfl, hb1⟩
      obtain ⟨hc1, hf1⟩ := bcell hb1
      try simp only [World.heap_drewN, World.cell?_drewN] at hc1
      try simp only [World.heap_drewN, World.frozen?_drewN] at hf1
      have hz1 := bsize hb1
      try simp only [World.size_alloc, World.size_setCell, World.size_drew, World.heap_drewN] at hz1
      try (have hs0 : w.heap.size < w1.heap.size := by omega)
      try (have hs1 : w.heap.size + 1 < w1.heap.size := by omega)
      try (have hs2 : w.heap.size + 2 < w1.heap.size := by omega)
      try (have hs3 : w.heap.size + 3 < w1.heap.size := by omega)
      go_wp2_with fail
      refine (Z3.out _).mono ?_
      rintro e w1 ⟨rfl, hb1⟩
      obtain ⟨hc1, hf1⟩ := bcell hb1
      try simp only [World.heap_drewN, World.cell?_drewN] at hc1
      try simp only [World.heap_drewN, World.frozen?_drewN] at hf1
      have hz1 := bsize hb1
      try simp only [World.size_alloc, World.size_setCell, World.size_drew, World.heap_drewN] at hz1
      try (have hs0 : w.heap.size < w1.heap.size := by omega)
      try (have hs1 : w.heap.size + 1 < w1.heap.size := by omega)
      try (have hs2 : w.heap.size + 2 < w1.heap.size := by omega)
      try (have hs3 : w.heap.size + 3 < w1.heap.size := by omega)
      go_wp2_with fail
      refine (Z4.out _).mono ?_
      rintro e w1 ⟨rfl, hb1⟩
      obtain ⟨hc1, hf1⟩ := bcell hb1
      try simp only [World.heap_drewN, World.cell?_drewN] at hc1
      try simp only [World.heap_drewN, World.frozen?_drewN] at hf1
      have hz1 := bsize hb1
      try simp only [World.size_alloc, World.size_setCell, World.size_drew, World.heap_drewN] at hz1
      try (have hs0 : w.heap.size < w1.heap.size := by omega)
      try (have hs1 : w.heap.size + 1 < w1.heap.size := by omega)
      try (have hs2 : w.heap.size + 2 < w1.heap.size := by omega)
      try (have hs3 : w.heap.size + 3 < w1.heap.size := by omega)
      go_wp2_with fail
      refine bodyPost_ret (by simp [*, results, Tryz.results96, go_sem]; try rfl) rfl ?_
      refine ⟨eqRet ?_, by (repeat' (first | (with_reducible exact Below.refl _ _) | (with_reducible refine Below.alloc ?_ ?_ _) | (with_reducible refine Below.setCell ?_ ?_ _) | (with_reducible refine Below.drew ?_) | (with_reducible refine belowN ?_ _) | (with_reducible refine bthen (by assumption) ?_ ?_) | omega | (simp only [World.size_alloc, World.size_setCell, World.size_drew, World.heap_drewN] at *; omega) | (simp; omega)))⟩
      rw [sel_not E.out, inWB_false E.out, hi_zero, lo_zero]
  · have E := Lib.hid (P1.out (fun h => h1 h.1))
    have b1 : (mOver a b c != 0) = true := by simpa using h1
    clear h1
    go_enter Tryz.func96, Tryz.ntmps96
    go_wp2_with fail
    refine (Z1.out _).mono ?_
    rintro e w1 ⟨rfl, hb1⟩
    obtain ⟨hc1, hf1⟩ := bcell hb1
    try simp only [World.heap_drewN, World.cell?_drewN] at hc1
    try simp only [World.heap_drewN, World.frozen?_drewN] at hf1
    have hz1 := bsize hb1
    try simp only [World.size_alloc, World.size_setCell, World.size_drew, World.heap_drewN] at hz1
    try (have hs0 : w.heap.size < w1.heap.size := by omega)
    try (have hs1 : w.heap.size + 1 < w1.heap.size := by omega)
    try (have hs2 : w.heap.size + 2 < w1.heap.size := by omega)
    try (have hs3 : w.heap.size + 3 < w1.heap.size := by omega)
    go_wp2_with fail
    refine (wide_Of c _ hc).mono ?_
    rintro e w1 ⟨rfl, hb1⟩
    obtain ⟨hc1, hf1⟩ := bcell hb1
    try simp only [World.heap_drewN, World.cell?_drewN] at hc1
    try simp only [World.heap_drewN, World.frozen?_drewN] at hf1
    have hz1 := bsize hb1
    try simp only [World.size_alloc, World.size_setCell, World.size_drew, World.heap_drewN] at hz1
    try (have hs0 : w.heap.size < w1.heap.size := by omega)
    try (have hs1 : w.heap.size + 1 < w1.heap.size := by omega)
    try (have hs2 : w.heap.size + 2 < w1.heap.size := by omega)
    try (have hs3 : w.heap.size + 3 < w1.heap.size := by omega)
    go_wp2_with fail
    refine (Z2.out _).mono ?_
    rintro e w1 ⟨rfl, hb1⟩
    obtain ⟨hc1, hf1⟩ := bcell hb1
    try simp only [World.heap_drewN, World.cell?_drewN] at hc1
    try simp only [World.heap_drewN, World.frozen?_drewN] at hf1
    have hz1 := bsize hb1
    try simp only [World.size_alloc, World.size_setCell, World.size_drew, World.heap_drewN] at hz1
    try (have hs0 : w.heap.size < w1.heap.size := by omega)
    try (have hs1 : w.heap.size + 1 < w1.heap.size := by omega)
    try (have hs2 : w.heap.size + 2 < w1.heap.size := by omega)
    try (have hs3 : w.heap.size + 3 < w1.heap.size := by omega)
    go_wp2_with fail
    refine (Z3.out _).mono ?_
    rintro e w1 ⟨rfl, hb1⟩
    obtain ⟨hc1, hf1⟩ := bcell hb1
    try simp only [World.heap_drewN, World.cell?_drewN] at hc1
    try simp only [World.heap_drewN, World.frozen?_drewN] at hf1
    have hz1 := bsize hb1
    try simp only [World.size_alloc, World.size_setCell, World.size_drew, World.heap_drewN] at hz1
    try (have hs0 : w.heap.size < w1.heap.size := by omega)
    try (have hs1 : w.heap.size + 1 < w1.heap.size := by omega)
    try (have hs2 : w.heap.size + 2 < w1.heap.size := by omega)
    try (have hs3 : w.heap.size + 3 < w1.heap.size := by omega)
    go_wp2_with fail
    refine (Z4.out _).mono ?_
    rintro e w1 ⟨rfl, hb1⟩
    obtain ⟨hc1, hf1⟩ := bcell hb1
    try simp only [World.heap_drewN, World.cell?_drewN] at hc1
    try simp only [World.heap_drewN, World.frozen?_drewN] at hf1
    have hz1 := bsize hb1
    try simp only [World.size_alloc, World.size_setCell, World.size_drew, World.heap_drewN] at hz1
    try (have hs0 : w.heap.size < w1.heap.size := by omega)
    try (have hs1 : w.heap.size + 1 < w1.heap.size := by omega)
    try (have hs2 : w.heap.size + 2 < w1.heap.size := by omega)
    try (have hs3 : w.heap.size + 3 < w1.heap.size := by omega)
    go_wp2_with fail
    refine bodyPost_ret (by simp [*, results, Tryz.results96, go_sem]; try rfl) rfl ?_
    refine ⟨eqRet ?_, by (repeat' (first | (with_reducible exact Below.refl _ _) | (with_reducible refine Below.alloc ?_ ?_ _) | (with_reducible refine Below.setCell ?_ ?_ _) | (with_reducible refine Below.drew ?_) | (with_reducible refine belowN ?_ _) | (with_reducible refine bthen (by assumption) ?_ ?_) | omega | (simp only [World.size_alloc, World.size_setCell, World.size_drew, World.heap_drewN] at *; omega) | (simp; omega)))⟩
    rw [sel_not E.out, inWB_false E.out, hi_zero, lo_zero]

/-- What the division comes to. -/
def dHi (a b c : Int) : Int := sH a b / c
def dRest (a b c : Int) : Int := sH a b % c
def dLo (a b c : Int) : Int := (dRest a b c * P64 + sL a b) / c
def dLeft (a b c : Int) : Int := (dRest a b c * P64 + sL a b) % c
theorem div_halves {H L c : Int} (hL : U64 L) (hc0 : 0 < c) (hH : 0 ≤ H) :
    H * P64 + L = (H / c * P64 + (H % c * P64 + L) / c) * c + (H % c * P64 + L) % c ∧ U64 ((H % c * P64 + L) / c) := by
  have e1 : c * (H / c) + H % c = H := Int.mul_ediv_add_emod H c
  have r0 : 0 ≤ H % c := Int.emod_nonneg _ (by omega)
  have r1 : H % c < c := Int.emod_lt_of_pos _ hc0
  have e2 := Int.mul_ediv_add_emod (H % c * P64 + L) c
  have n0 : 0 ≤ H % c * P64 + L := by unfold U64 at hL; unfold P64; omega
  have n1 : H % c * P64 + L < P64 * c := by unfold U64 at hL; unfold P64 at *; omega
  refine ⟨?_, Int.ediv_nonneg n0 (by omega), Int.ediv_lt_of_lt_mul hc0 n1⟩
  generalize (H % c * P64 + L) / c = q at *
  generalize (H % c * P64 + L) % c = r at *
  rw [Int.add_mul]
  rw [show H / c * P64 * c = c * (H / c) * P64 from by rw [Int.mul_right_comm, Int.mul_comm (H / c)]]
  generalize c * (H / c) = k at *
  rw [Int.mul_comm q c]
  generalize c * q = j at *
  unfold P64 at *
  omega
theorem div_plain {a b c : Int} (ha : I64 a) (hb : U64 b) (hc0 : 0 < c) (hc : c < 4294967296) :
    siz (val a b) = (dHi a b c * P64 + dLo a b c) * c + dLeft a b c ∧ 0 ≤ dRest a b c ∧ dRest a b c < c ∧ 0 ≤ dHi a b c ∧ dHi a b c ≤ P63 ∧ U64 (dLo a b c) ∧ 0 ≤ dLeft a b c ∧ dLeft a b c < c := by
  obtain ⟨e, h1, h2⟩ := hiU_siz (InW_val ha hb)
  have h0 : 0 ≤ sH a b := h1.1
  obtain ⟨k1, k2⟩ := div_halves (H := sH a b) (L := sL a b) (U64_lo _) hc0 h0
  refine ⟨?_, Int.emod_nonneg _ (by omega), Int.emod_lt_of_pos _ hc0, Int.ediv_nonneg h0 (by omega), ?_, k2, Int.emod_nonneg _ (by omega), Int.emod_lt_of_pos _ hc0⟩
  · have : siz (val a b) = sH a b * P64 + sL a b := e.symm
    rw [this]; exact k1
  · exact Int.le_trans (Int.ediv_le_self c h0) h2
theorem neg_halves (q : Int) : hiI (-val (hiI q) (loI q)) = hiI (-q) ∧ loI (-val (hiI q) (loI q)) = loI (-q) := by
  unfold hiI loI val wrap64 P64; omega
/-- The quotient and the rest of a number below 0, by those of its size. -/
theorem div_neg {z s q r c : Int} (hz : z < 0) (hs : siz z = s) (e : s = q * c + r) (r0 : 0 ≤ r) (r1 : r < c) :
    (0 < r → z / c = -(q + 1) ∧ z % c = c - r) ∧ (r = 0 → z / c = -q ∧ z % c = 0) := by
  have hz' : z = -s := by unfold siz at hs; rw [if_pos hz] at hs; omega
  constructor
  · intro h
    have e2 : z = (c - r) + -(q + 1) * c := by rw [hz', e, Int.neg_mul, Int.add_mul]; omega
    rw [e2, Int.add_mul_ediv_right _ _ (by omega), Int.add_mul_emod_self_right, Int.ediv_eq_zero_of_lt (by omega) (by omega), Int.emod_eq_of_lt (by omega) (by omega)]
    exact ⟨by omega, rfl⟩
  · intro h
    have e2 : z = 0 + -q * c := by rw [hz', e, Int.neg_mul]; omega
    rw [e2, Int.add_mul_ediv_right _ _ (by omega), Int.add_mul_emod_self_right]
    simp
theorem div_pos {z s q r c : Int} (hz : 0 ≤ z) (hs : siz z = s) (e : s = q * c + r) (r0 : 0 ≤ r) (r1 : r < c) : z / c = q ∧ z % c = r := by
  have hz' : z = s := by unfold siz at hs; rw [if_neg (by omega)] at hs; exact hs
  have e2 : z = r + q * c := by rw [hz', e]; omega
  rw [e2, Int.add_mul_ediv_right _ _ (by omega), Int.add_mul_emod_self_right, Int.ediv_eq_zero_of_lt (by omega) (by omega), Int.emod_eq_of_lt (by omega) (by omega)]
  exact ⟨by omega, rfl⟩

set_option maxHeartbeats 1000000 in
set_option maxRecDepth 100000 in
theorem wide_Div (a b c : Int) (w : World) (ha : I64 a) (hb : U64 b) (hc0 : 0 < c) (hc : c < 4294967296) :
    Calls Tryz.prog 81 #[.agg #[.int .i64 a, .int .u64 b], .int .u64 c] w
      (Ret w (.tuple #[.agg #[.int .i64 (hiI (val a b / c)), .int .u64 (loI (val a b / c))], .int .u64 (val a b % c), .bool true])) := by
  have z1 : ∀ w, Calls Tryz.prog 120 #[.agg #[.int .i64 a, .int .u64 b]] w (Ret w (.tuple #[.int .u64 (sH a b), .int .u64 (sL a b)])) := fun w => wide_size a b w ha hb
  obtain ⟨e1, r0, r1, q0, q1, l1, f0, f1⟩ := div_plain ha hb hc0 hc
  have z2 : ∀ w, Calls Tryz.prog 121 #[.int .u64 (dRest a b c), .int .u64 (sL a b), .int .u64 c] w (Ret w (.tuple #[.int .u64 (dLo a b c), .int .u64 (dLeft a b c)])) := fun w =>
    bits_Div64 _ _ _ w (U64_lo _) r0 r1 hc
  have Z1 := Lib.hid z1; have Z2 := Lib.hid z2; have E1 := Lib.hid e1
  have c0 : (c == 0) = false := by simp; omega
  have u := (U64_sH ha hb)
  have g1 : IntKind.u64.wrap ((sH a b).tdiv c) = dHi a b c := by rw [Int.tdiv_eq_ediv_of_nonneg u.1]; exact wrapU64_id ⟨q0, by unfold P63 at q1; unfold P64; unfold dHi at q1; omega⟩
  have g2 : (sH a b).tmod c = dRest a b c := Int.tmod_eq_emod_of_nonneg u.1
  have g3 : sH a b / c = dHi a b c := rfl
  have g4 : sH a b % c = dRest a b c := rfl
  clear z1 z2 e1 q1 u
  have hv : (val a b < 0) = (a < 0) := by unfold U64 at hb; unfold val P64 at *; apply propext; omega
  have W2 : ∀ q, 0 ≤ q → q ≤ P63 → wrap64 q = hiI (q * P64 + dLo a b c) := by
    intro q h0 h1; unfold hiI; unfold U64 P64 at l1; unfold P63 at h1; unfold P64 wrap64; omega
  have W3 : dLo a b c = loI (dHi a b c * P64 + dLo a b c) := by unfold loI; unfold U64 P64 at l1; unfold P64; omega
  have q1 := (div_plain ha hb hc0 hc).2.2.2.2.1
  by_cases hn : a < 0
  · by_cases h0 : 0 < dLeft a b c
    · have D := Lib.hid ((div_neg (by rw [hv]; exact hn) rfl E1.out f0 f1).1 h0)
      have A := fun w => run_add l1 (show U64 1 by unfold U64 P64; omega) Carry_zero w
      have K1 := Lib.hid (show lo3 (dLo a b c) 1 0 = loI (dHi a b c * P64 + dLo a b c + 1) by unfold lo3 loI P64; omega)
      have K2 := Lib.hid (show wrap64 (IntKind.u64.wrap (dHi a b c + hi3 (dLo a b c) 1 0)) = hiI (dHi a b c * P64 + dLo a b c + 1) by
        rw [wrapU64]; unfold hi3 hiI wrap64; unfold P63 at q1; unfold U64 P64 at l1; unfold P64; omega)
      have K3 : IntKind.u64.wrap (c - dLeft a b c) = c - dLeft a b c := wrapU64_id ⟨by omega, by unfold P64; omega⟩
      have K4 := fun w => wide_flip (wrap64 (IntKind.u64.wrap (dHi a b c + hi3 (dLo a b c) 1 0))) (lo3 (dLo a b c) 1 0) w (I64_wrap _) (U64_lo3 _ _ _)
      have H4 := Lib.hid K4
      have I4 := Lib.hid (neg_halves (dHi a b c * P64 + dLo a b c + 1))
      clear K4 W2 W3 hv q1
      go_enter Tryz.func81, Tryz.ntmps81
      go_wp2_with fail
      refine (Z1.out _).mono ?_
      rintro e w1 ⟨rfl, hb1⟩
      obtain ⟨hc1, hf1⟩ := bcell hb1
      try simp only [World.heap_drewN, World.cell?_drewN] at hc1
      try simp only [World.heap_drewN, World.frozen?_drewN] at hf1
      have hz1 := bsize hb1
      try simp only [World.size_alloc, World.size_setCell, World.size_drew, World.heap_drewN] at hz1
      try (have hs0 : w.heap.size < w1.heap.size := by omega)
      try (have hs1 : w.heap.size + 1 < w1.heap.size := by omega)
      try (have hs2 : w.heap.size + 2 < w1.heap.size := by omega)
      try (have hs3 : w.heap.size + 3 < w1.heap.size := by omega)
      go_wp2_with fail
      go_quiet (fail)
      go_wp2_with fail
      refine (Z2.out _).mono ?_
      rintro e w1 ⟨rfl, hb1⟩
      obtain ⟨hc1, hf1⟩ := bcell hb1
      try simp only [World.heap_drewN, World.cell?_drewN] at hc1
      try simp only [World.heap_drewN, World.frozen?_drewN] at hf1
      have hz1 := bsize hb1
      try simp only [World.size_alloc, World.size_setCell, World.size_drew, World.heap_drewN] at hz1
      try (have hs0 : w.heap.size < w1.heap.size := by omega)
      try (have hs1 : w.heap.size + 1 < w1.heap.size := by omega)
      try (have hs2 : w.heap.size + 2 < w1.heap.size := by omega)
      try (have hs3 : w.heap.size + 3 < w1.heap.size := by omega)
      go_wp2_with fail
      refine (H4.out _).mono ?_
      rintro e w1 ⟨rfl, hb1⟩
      obtain ⟨hc1, hf1⟩ := bcell hb1
      try simp only [World.heap_drewN, World.cell?_drewN] at hc1
      try simp only [World.heap_drewN, World.frozen?_drewN] at hf1
      have hz1 := bsize hb1
      try simp only [World.size_alloc, World.size_setCell, World.size_drew, World.heap_drewN] at hz1
      try (have hs0 : w.heap.size < w1.heap.size := by omega)
      try (have hs1 : w.heap.size + 1 < w1.heap.size := by omega)
      try (have hs2 : w.heap.size + 2 < w1.heap.size := by omega)
      try (have hs3 : w.heap.size + 3 < w1.heap.size := by omega)
      go_wp2_with fail
      refine bodyPost_ret (by simp [*, results, Tryz.results81, go_sem]; try rfl) rfl ?_
      refine ⟨eqRet ?_, by (repeat' (first | (with_reducible exact Below.refl _ _) | (with_reducible refine Below.alloc ?_ ?_ _) | (with_reducible refine Below.setCell ?_ ?_ _) | (with_reducible refine Below.drew ?_) | (with_reducible refine belowN ?_ _) | (with_reducible refine bthen (by assumption) ?_ ?_) | omega | (simp only [World.size_alloc, World.size_setCell, World.size_drew, World.heap_drewN] at *; omega) | (simp; omega)))⟩
      rw [K1.out, K2.out, D.out.1, D.out.2, I4.out.1, I4.out.2]
    · have h00 : dLeft a b c = 0 := by omega
      have D := Lib.hid ((div_neg (by rw [hv]; exact hn) rfl E1.out f0 f1).2 h00)
      have K1 := Lib.hid (W2 _ q0 q1)
      have K2 := Lib.hid W3
      have K4 := fun w => wide_flip (wrap64 (dHi a b c)) (dLo a b c) w (I64_wrap _) l1
      have H4 := Lib.hid K4
      have I4 := Lib.hid (neg_halves (dHi a b c * P64 + dLo a b c))
      have H0 := Lib.hid h00
      clear K4 W2 W3 hv q1 h00
      go_enter Tryz.func81, Tryz.ntmps81
      go_wp2_with fail
      refine (Z1.out _).mono ?_
      rintro e w1 ⟨rfl, hb1⟩
      obtain ⟨hc1, hf1⟩ := bcell hb1
      try simp only [World.heap_drewN, World.cell?_drewN] at hc1
      try simp only [World.heap_drewN, World.frozen?_drewN] at hf1
      have hz1 := bsize hb1
      try simp only [World.size_alloc, World.size_setCell, World.size_drew, World.heap_drewN] at hz1
      try (have hs0 : w.heap.size < w1.heap.size := by omega)
      try (have hs1 : w.heap.size + 1 < w1.heap.size := by omega)
      try (have hs2 : w.heap.size + 2 < w1.heap.size := by omega)
      try (have hs3 : w.heap.size + 3 < w1.heap.size := by omega)
      go_wp2_with fail
      go_quiet (fail)
      go_wp2_with fail
      refine (Z2.out _).mono ?_
      rintro e w1 ⟨rfl, hb1⟩
      obtain ⟨hc1, hf1⟩ := bcell hb1
      try simp only [World.heap_drewN, World.cell?_drewN] at hc1
      try simp only [World.heap_drewN, World.frozen?_drewN] at hf1
      have hz1 := bsize hb1
      try simp only [World.size_alloc, World.size_setCell, World.size_drew, World.heap_drewN] at hz1
      try (have hs0 : w.heap.size < w1.heap.size := by omega)
      try (have hs1 : w.heap.size + 1 < w1.heap.size := by omega)
      try (have hs2 : w.heap.size + 2 < w1.heap.size := by omega)
      try (have hs3 : w.heap.size + 3 < w1.heap.size := by omega)
      go_wp2_with fail
      refine (H4.out _).mono ?_
      rintro e w1 ⟨rfl, hb1⟩
      obtain ⟨hc1, hf1⟩ := bcell hb1
      try simp only [World.heap_drewN, World.cell?_drewN] at hc1
      try simp only [World.heap_drewN, World.frozen?_drewN] at hf1
      have hz1 := bsize hb1
      try simp only [World.size_alloc, World.size_setCell, World.size_drew, World.heap_drewN] at hz1
      try (have hs0 : w.heap.size < w1.heap.size := by omega)
      try (have hs1 : w.heap.size + 1 < w1.heap.size := by omega)
      try (have hs2 : w.heap.size + 2 < w1.heap.size := by omega)
      try (have hs3 : w.heap.size + 3 < w1.heap.size := by omega)
      go_wp2_with fail
      refine bodyPost_ret (by simp [*, results, Tryz.results81, go_sem]; try rfl) rfl ?_
      refine ⟨eqRet ?_, by (repeat' (first | (with_reducible exact Below.refl _ _) | (with_reducible refine Below.alloc ?_ ?_ _) | (with_reducible refine Below.setCell ?_ ?_ _) | (with_reducible refine Below.drew ?_) | (with_reducible refine belowN ?_ _) | (with_reducible refine bthen (by assumption) ?_ ?_) | omega | (simp only [World.size_alloc, World.size_setCell, World.size_drew, World.heap_drewN] at *; omega) | (simp; omega)))⟩
      have i1 := I4.out.1
      have i2 := I4.out.2
      rw [← K1.out, ← K2.out] at i1 i2
      rw [i1, i2, D.out.1, D.out.2, H0.out]
  · have D := Lib.hid (div_pos (by have h : ¬ (val a b < 0) := by rw [hv]; exact hn
                                   omega) rfl E1.out f0 f1)
    have K1 := Lib.hid (W2 _ q0 q1)
    have K2 := Lib.hid W3
    clear W2 W3 hv q1
    go_enter Tryz.func81, Tryz.ntmps81
    go_wp2_with fail
    refine (Z1.out _).mono ?_
    rintro e w1 ⟨rfl, hb1⟩
    obtain ⟨hc1, hf1⟩ := bcell hb1
    try simp only [World.heap_drewN, World.cell?_drewN] at hc1
    try simp only [World.heap_drewN, World.frozen?_drewN] at hf1
    have hz1 := bsize hb1
    try simp only [World.size_alloc, World.size_setCell, World.size_drew, World.heap_drewN] at hz1
    try (have hs0 : w.heap.size < w1.heap.size := by omega)
    try (have hs1 : w.heap.size + 1 < w1.heap.size := by omega)
    try (have hs2 : w.heap.size + 2 < w1.heap.size := by omega)
    try (have hs3 : w.heap.size + 3 < w1.heap.size := by omega)
    go_wp2_with fail
    go_quiet (fail)
    go_wp2_with fail
    refine (Z2.out _).mono ?_
    rintro e w1 ⟨rfl, hb1⟩
    obtain ⟨hc1, hf1⟩ := bcell hb1
    try simp only [World.heap_drewN, World.cell?_drewN] at hc1
    try simp only [World.heap_drewN, World.frozen?_drewN] at hf1
    have hz1 := bsize hb1
    try simp only [World.size_alloc, World.size_setCell, World.size_drew, World.heap_drewN] at hz1
    try (have hs0 : w.heap.size < w1.heap.size := by omega)
    try (have hs1 : w.heap.size + 1 < w1.heap.size := by omega)
    try (have hs2 : w.heap.size + 2 < w1.heap.size := by omega)
    try (have hs3 : w.heap.size + 3 < w1.heap.size := by omega)
    go_wp2_with fail
    refine bodyPost_ret (by simp [*, results, Tryz.results81, go_sem]; try rfl) rfl ?_
    refine ⟨eqRet ?_, by (repeat' (first | (with_reducible exact Below.refl _ _) | (with_reducible refine Below.alloc ?_ ?_ _) | (with_reducible refine Below.setCell ?_ ?_ _) | (with_reducible refine Below.drew ?_) | (with_reducible refine belowN ?_ _) | (with_reducible refine bthen (by assumption) ?_ ?_) | omega | (simp only [World.size_alloc, World.size_setCell, World.size_drew, World.heap_drewN] at *; omega) | (simp; omega)))⟩
    rw [D.out.1, D.out.2, ← K1.out, ← K2.out]
end Go.Proofs.YtemfhipofgafiaaGreatDoor
