/- Numbers: what the machine's wrapping and bits come to, within ranges. Plain lemmas; conditions: in each. -/
import Derived.Test.YtemfcbgmgfcjeaaDoorSym
import Derived.IntWalk
import Derived.Laws.Bits64
import GoSem.Claim
set_option linter.unusedVariables false
set_option linter.unusedSimpArgs false
namespace Go.Proofs.YtemfcbgmgfcjeaaDoor.Fl
def in64 (n : Int) : Prop := -9223372036854775808 ≤ n ∧ n ≤ 9223372036854775807
def inU64 (n : Int) : Prop := 0 ≤ n ∧ n ≤ 18446744073709551615
def inU32 (n : Int) : Prop := 0 ≤ n ∧ n ≤ 4294967295
def inU8 (n : Int) : Prop := 0 ≤ n ∧ n ≤ 255
def inU16 (n : Int) : Prop := 0 ≤ n ∧ n ≤ 65535
theorem wrap_i64 {n : Int} (h : in64 n) : IntKind.i64.wrap n = n := by rw [IntKind.wrap_i64]; unfold in64 at h; omega
theorem wrap_u64 {n : Int} (h : inU64 n) : IntKind.u64.wrap n = n := by rw [IntKind.wrap_u64]; unfold inU64 at h; omega
theorem wrap_u32 {n : Int} (h : inU32 n) : IntKind.u32.wrap n = n := by rw [IntKind.wrap_u32]; unfold inU32 at h; omega
theorem wf_i64 {n : Int} (h : (Lit.int .i64 n).wf = true) : in64 n := by
  simpa [Lit.wf, IntKind.min, IntKind.max, IntKind.bits, IntKind.signed, in64] using h
theorem wf_u64 {n : Int} (h : (Lit.int .u64 n).wf = true) : inU64 n := by
  simpa [Lit.wf, IntKind.min, IntKind.max, IntKind.bits, IntKind.signed, inU64] using h
theorem wf_u32 {n : Int} (h : (Lit.int .u32 n).wf = true) : inU32 n := by
  simpa [Lit.wf, IntKind.min, IntKind.max, IntKind.bits, IntKind.signed, inU32] using h
theorem wf_u16 {n : Int} (h : (Lit.int .u16 n).wf = true) : inU16 n := by
  simpa [Lit.wf, IntKind.min, IntKind.max, IntKind.bits, IntKind.signed, inU16] using h
theorem wf_u8 {n : Int} (h : (Lit.int .u8 n).wf = true) : inU8 n := by
  simpa [Lit.wf, IntKind.min, IntKind.max, IntKind.bits, IntKind.signed, inU8] using h
theorem add_i64 {x y : Int} (h : in64 (x + y)) : iAdd .i64 x y = x + y := wrap_i64 h
theorem sub_i64 {x y : Int} (h : in64 (x - y)) : iSub .i64 x y = x - y := wrap_i64 h
theorem mul_i64 {x y : Int} (h : in64 (x * y)) : iMul .i64 x y = x * y := wrap_i64 h
theorem add_u64 {x y : Int} (h : inU64 (x + y)) : iAdd .u64 x y = x + y := wrap_u64 h
theorem sub_u64 {x y : Int} (h : inU64 (x - y)) : iSub .u64 x y = x - y := wrap_u64 h
theorem mul_u64 {x y : Int} (h : inU64 (x * y)) : iMul .u64 x y = x * y := wrap_u64 h
theorem quo_u64 {x y : Int} (hx : 0 ≤ x) (hy : 0 < y) (h : inU64 (x / y)) : iQuo .u64 x y = x / y := by
  unfold iQuo; rw [Int.tdiv_eq_ediv_of_nonneg hx]; exact wrap_u64 h
theorem quo_i64 {x y : Int} (hx : 0 ≤ x) (hy : 0 < y) (h : in64 (x / y)) : iQuo .i64 x y = x / y := by
  unfold iQuo; rw [Int.tdiv_eq_ediv_of_nonneg hx]; exact wrap_i64 h
theorem cv_i64 {x : Int} (h : in64 x) : iCv .i64 x = x := wrap_i64 h
theorem cv_u64 {x : Int} (h : inU64 x) : iCv .u64 x = x := wrap_u64 h
theorem cv_u32 {x : Int} (h : inU32 x) : iCv .u32 x = x := wrap_u32 h
theorem tmod_pos {x y : Int} (hx : 0 ≤ x) : Int.tmod x y = x % y := Int.tmod_eq_emod_of_nonneg hx
theorem shl_u64 {x : Int} {n : Nat} (h : inU64 (x * 2 ^ n)) : iShl .u64 x n = x * 2 ^ n := wrap_u64 h
theorem shl_i64 {x : Int} {n : Nat} (h : in64 (x * 2 ^ n)) : iShl .i64 x n = x * 2 ^ n := wrap_i64 h
theorem shr_div {x : Int} {n : Nat} : iShr x n = x / 2 ^ n := by
  unfold iShr
  rw [Int.fdiv_eq_ediv_of_nonneg]
  exact Int.le_of_lt (Int.pow_pos (by omega))
theorem shr_1 (x : Int) : iShr x 1 = x / 2 := by rw [shr_div]; rfl
theorem toNat_ofInt_u64 {x : Int} (h : inU64 x) : (BitVec.ofInt 64 x).toNat = x.toNat := by
  unfold inU64 at h
  rw [BitVec.toNat_ofInt]
  congr 1
  omega
theorem toNat_ofInt_u32 {x : Int} (h : inU32 x) : (BitVec.ofInt 32 x).toNat = x.toNat := by
  unfold inU32 at h
  rw [BitVec.toNat_ofInt]
  congr 1
  omega
theorem bAnd_u64 {x y : Int} (hx : inU64 x) (hy : inU64 y) : bAnd .u64 x y = ((x.toNat &&& y.toNat : Nat) : Int) := by
  unfold bAnd
  show IntKind.u64.wrap ((BitVec.ofInt 64 x &&& BitVec.ofInt 64 y).toNat : Int) = _
  rw [BitVec.toNat_and, toNat_ofInt_u64 hx, toNat_ofInt_u64 hy]
  refine wrap_u64 ⟨by omega, ?_⟩
  have : x.toNat &&& y.toNat ≤ x.toNat := Nat.and_le_left
  unfold inU64 at hx
  omega
theorem bOr_u64 {x y : Int} (hx : inU64 x) (hy : inU64 y) : bOr .u64 x y = ((x.toNat ||| y.toNat : Nat) : Int) := by
  unfold bOr
  show IntKind.u64.wrap ((BitVec.ofInt 64 x ||| BitVec.ofInt 64 y).toNat : Int) = _
  rw [BitVec.toNat_or, toNat_ofInt_u64 hx, toNat_ofInt_u64 hy]
  refine wrap_u64 ⟨by omega, ?_⟩
  have : x.toNat ||| y.toNat < 2 ^ 64 := Nat.or_lt_two_pow (by unfold inU64 at hx; omega) (by unfold inU64 at hy; omega)
  omega
theorem bAnd_u64_1 {x : Int} (hx : inU64 x) : bAnd .u64 x 1 = x % 2 := by
  rw [bAnd_u64 hx (by unfold inU64; omega)]
  show ((x.toNat &&& 1 : Nat) : Int) = _
  rw [Nat.and_one_is_mod]
  unfold inU64 at hx
  omega
theorem bOr_u64_even {m : Int} (hx : inU64 (2 * m)) : bOr .u64 (2 * m) 1 = 2 * m + 1 := by
  rw [bOr_u64 hx (by unfold inU64; omega)]
  unfold inU64 at hx
  have h1 : (2 * m).toNat = 2 ^ 1 * m.toNat := by omega
  rw [h1]
  show ((2 ^ 1 * m.toNat ||| 1 : Nat) : Int) = _
  rw [← Nat.two_pow_add_eq_or_of_lt (by omega)]
  omega
end Go.Proofs.YtemfcbgmgfcjeaaDoor.Fl
