/-
  BYTES AS THE MODEL HAS THEM: the operations on integers of eight bits, said of UInt8.
-/
import Derived.WalkKit
import Derived.WalkSpells
import Derived.WalkLawsBesides
import Derived.Test.YtndbfphmjmhkjaaGf
namespace Go.Proofs.Ytndbfphmjmhkjaa
open Go.RowKit

/-- a byte as the model's integer; behind a name, so that the walk's simp leaves it alone -/
def B8 (x : UInt8) : Int := (x.toNat : Int)
theorem B8_lo (x : UInt8) : 0 ≤ B8 x := by unfold B8; omega
theorem B8_hi (x : UInt8) : B8 x < 256 := by have := x.toNat_lt; unfold B8; omega
theorem B8_inj {x y : UInt8} (h : B8 x = B8 y) : x = y := by
  unfold B8 at h
  exact UInt8.toNat_inj.1 (by omega)
theorem B8_beq (x y : UInt8) : (B8 x == B8 y) = (x == y) := by
  by_cases h : x = y
  · subst h; simp
  · have h' : B8 x ≠ B8 y := fun e => h (B8_inj e)
    rw [beq_eq_false_iff_ne.2 h, beq_eq_false_iff_ne.2 h']
theorem B8_of (n : Nat) (h : n < 256) : B8 (UInt8.ofNat n) = (n : Int) := by
  unfold B8
  rw [UInt8.toNat_ofNat']
  omega
theorem ofInt_u8 (x : UInt8) : BitVec.ofInt 8 (B8 x) = x.toBitVec := by
  apply BitVec.eq_of_toNat_eq
  rw [BitVec.toNat_ofInt]
  have h := x.toNat_lt
  show _ = x.toNat
  unfold B8
  omega
theorem wrap_u8 (n : Int) (h0 : 0 ≤ n) (h1 : n < 256) : IntKind.u8.wrap n = n := by
  simp [IntKind.wrap, IntKind.bits, IntKind.signed]; omega
theorem wrap_u8_u8 (x : UInt8) : IntKind.u8.wrap (B8 x) = B8 x := wrap_u8 _ (B8_lo x) (B8_hi x)
theorem wrap_u8_nat (n : Nat) : IntKind.u8.wrap (n : Int) = B8 (UInt8.ofNat n) := by
  simp [IntKind.wrap, IntKind.bits, IntKind.signed, B8]
theorem bits_xor8 (x y : UInt8) : bits .xor .u8 (B8 x) (B8 y) = B8 (x ^^^ y) := by
  have e : bits .xor .u8 (B8 x) (B8 y) = IntKind.u8.wrap ((BitVec.ofInt 8 (B8 x) ^^^ BitVec.ofInt 8 (B8 y)).toNat : Int) := rfl
  rw [e, ofInt_u8, ofInt_u8, ← UInt8.toBitVec_xor]
  exact wrap_u8_u8 _
theorem bits_and8 (x y : UInt8) : bits .and .u8 (B8 x) (B8 y) = B8 (x &&& y) := by
  have e : bits .and .u8 (B8 x) (B8 y) = IntKind.u8.wrap ((BitVec.ofInt 8 (B8 x) &&& BitVec.ofInt 8 (B8 y)).toNat : Int) := rfl
  rw [e, ofInt_u8, ofInt_u8, ← UInt8.toBitVec_and]
  exact wrap_u8_u8 _
theorem shl1_u8 (x : UInt8) : IntKind.u8.wrap (B8 x * 2) = B8 (x <<< 1) := by
  have := Gf.of_allB (P := fun x => B8 (x <<< 1) == IntKind.u8.wrap (B8 x * 2)) (by decide +kernel) x
  exact (eq_of_beq this).symm
theorem and_bit (b : UInt8) (k : Nat) (hk : k ≤ 8) : (bits .and .u8 (B8 b / 2 ^ k) 1 == 1) = Gf.bit b k := by
  have h : (List.range 9).all (fun k => Gf.allB fun b => (bits .and .u8 (B8 b / 2 ^ k) 1 == 1) == Gf.bit b k) = true := by decide +kernel
  have := Gf.of_allB (List.all_eq_true.1 h k (by simp; omega)) b
  exact eq_of_beq this
theorem and_top (x : UInt8) : (bits .and .u8 (B8 x) 128 != 0) = decide (128 ≤ x) := by
  have := Gf.of_allB (P := fun x => (bits .and .u8 (B8 x) 128 != 0) == decide (128 ≤ x)) (by decide +kernel) x
  exact eq_of_beq this
/-- a number of sixteen bits -/
def B16 (x : UInt16) : Int := (x.toNat : Int)
theorem B16_lo (x : UInt16) : 0 ≤ B16 x := by unfold B16; omega
theorem B16_hi (x : UInt16) : B16 x < 65536 := by have := x.toNat_lt; unfold B16; omega
theorem ofInt_u16 (x : UInt16) : BitVec.ofInt 16 (B16 x) = x.toBitVec := by
  apply BitVec.eq_of_toNat_eq
  rw [BitVec.toNat_ofInt]
  have h := x.toNat_lt
  show _ = x.toNat
  unfold B16
  omega
theorem wrap_u16 (n : Int) (h0 : 0 ≤ n) (h1 : n < 65536) : IntKind.u16.wrap n = n := by
  simp [IntKind.wrap, IntKind.bits, IntKind.signed]; omega
theorem wrap_u16_nat (n : Nat) : IntKind.u16.wrap (n : Int) = B16 (UInt16.ofNat n) := by
  simp [IntKind.wrap, IntKind.bits, IntKind.signed, B16]
theorem bits_xor16 (x y : UInt16) : bits .xor .u16 (B16 x) (B16 y) = B16 (x ^^^ y) := by
  have e : bits .xor .u16 (B16 x) (B16 y) = IntKind.u16.wrap ((BitVec.ofInt 16 (B16 x) ^^^ BitVec.ofInt 16 (B16 y)).toNat : Int) := rfl
  rw [e, ofInt_u16, ofInt_u16, ← UInt16.toBitVec_xor]
  exact wrap_u16 _ (B16_lo _) (B16_hi _)
theorem wrap_u8_u16 (x : UInt16) : IntKind.u8.wrap (B16 x) = B8 x.toUInt8 := by
  unfold B16
  rw [wrap_u8_nat]
  rfl
theorem shl_u16 (a : UInt8) (k : Nat) (hk : k < 8) : IntKind.u16.wrap (B8 a * 2 ^ k) = B16 (Gf.sh a k) := by
  have h : (List.range 8).all (fun k => Gf.allB fun a => IntKind.u16.wrap (B8 a * 2 ^ k) == B16 (Gf.sh a k)) = true := by decide +kernel
  have := Gf.of_allB (List.all_eq_true.1 h k (by simp; omega)) a
  exact eq_of_beq this
theorem and1_u16 (m : Nat) : (bits .and .u16 (m : Int) 1 == 1) = decide (m % 2 = 1) := by
  have e : bits .and .u16 (m : Int) 1 = IntKind.u16.wrap ((BitVec.ofInt 16 (m : Int) &&& BitVec.ofInt 16 1).toNat : Int) := rfl
  have e2 : (BitVec.ofInt 16 (m : Int) &&& BitVec.ofInt 16 1).toNat = m % 2 := by
    rw [BitVec.toNat_and]
    have h1 : (BitVec.ofInt 16 1).toNat = 1 := by decide
    rw [h1, BitVec.toNat_ofInt, Nat.and_one_is_mod]
    omega
  rw [e, e2, wrap_u16 _ (by omega) (by omega)]
  by_cases h : m % 2 = 1
  · simp [h]
  · have : m % 2 = 0 := by omega
    simp [this]
theorem and_bit16 (x : UInt16) (j : Nat) : (bits .and .u16 (B16 x / 2 ^ j) 1 == 1) = Gf.bit16 x j := by
  have h : B16 x / 2 ^ j = ((x.toNat / 2 ^ j : Nat) : Int) := by unfold B16; simp
  rw [h, and1_u16, Gf.bit16, Nat.testBit_eq_decide_div_mod_eq]
theorem add_u8 (x y : UInt8) : IntKind.u8.wrap (B8 x + B8 y) = B8 (x + y) := by
  have e : B8 x + B8 y = ((x.toNat + y.toNat : Nat) : Int) := by unfold B8; omega
  rw [e, wrap_u8_nat, UInt8.ofNat_add, UInt8.ofNat_toNat, UInt8.ofNat_toNat]
theorem mul_u8 (x y : UInt8) : IntKind.u8.wrap (B8 x * B8 y) = B8 (x * y) := by
  have e : B8 x * B8 y = ((x.toNat * y.toNat : Nat) : Int) := by unfold B8; simp
  rw [e, wrap_u8_nat, UInt8.ofNat_mul, UInt8.ofNat_toNat, UInt8.ofNat_toNat]
theorem add_u8_nat (x : UInt8) (n : Nat) : IntKind.u8.wrap (B8 x + (n : Int)) = B8 (x + UInt8.ofNat n) := by
  have e : B8 x + (n : Int) = ((x.toNat + n : Nat) : Int) := by unfold B8; omega
  rw [e, wrap_u8_nat, UInt8.ofNat_add, UInt8.ofNat_toNat]
theorem ret_u8 {a b : UInt8} (h : a = b) : Ending.returned (.int .u8 (B8 a)) = .returned (.int .u8 (B8 b)) := by rw [h]
theorem ret_bool {a b : Bool} (h : a = b) : Ending.returned (.bool a) = .returned (.bool b) := by rw [h]
theorem ret_u8_bool {a b : UInt8} {c d : Bool} (h : a = b) (h' : c = d) : Ending.returned (.tuple #[.int .u8 (B8 a), .bool c]) = .returned (.tuple #[.int .u8 (B8 b), .bool d]) := by rw [h, h']
end Go.Proofs.Ytndbfphmjmhkjaa
