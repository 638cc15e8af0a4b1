/- The plain law of ChachaCounts; a store of one number into a block. -/
import Derived.Test.YtoehkegbmphlhaaChPlain2
import Derived.Test.YtoehkegbmphlhaaChW3
import Derived.Test.YtoehkegbmphlhaaChW4
import Derived.Test.YtoehkegbmphlhaaLw
namespace Go.Proofs.Ytoehkegbmphlhaa.Ch
set_option linter.unusedSimpArgs false
set_option linter.unusedVariables false
open Go.RowKit

def kS (key : List Nat) (i : Nat) : List Nat := [1634760805, 857760878, 2036477234, 1797285236] ++ nums key i ++ List.replicate (12 - i) 0
theorem kS_length (key : List Nat) (i : Nat) (h : i ≤ 12) : (kS key i).length = 16 := by simp [kS, nums_length]; omega
theorem set_at (pre post : List Nat) (x v : Nat) (n : Nat) (hn : n = pre.length) : (pre ++ x :: post).set n v = pre ++ v :: post := by
  subst hn
  rw [List.set_append_right _ _ (Nat.le_refl _)]
  simp
theorem kS_set (key : List Nat) (i : Nat) (h : i < 8) : (kS key i).set (4 + i) (num key i) = kS key (i + 1) := by
  unfold kS
  rw [nums_succ]
  obtain ⟨m, hm⟩ : ∃ m, 12 - i = m + 1 := ⟨11 - i, by omega⟩
  rw [hm, show 12 - (i + 1) = m by omega, List.replicate_succ, set_at _ _ _ _ _ (by simp [nums_length]; omega)]
  simp
def nS (key : List Nat) (ct : Nat) (nonce : List Nat) (i : Nat) : List Nat := [1634760805, 857760878, 2036477234, 1797285236] ++ nums key 8 ++ [ct] ++ nums nonce i ++ List.replicate (3 - i) 0
theorem nS_length (key : List Nat) (ct : Nat) (nonce : List Nat) (i : Nat) (h : i ≤ 3) : (nS key ct nonce i).length = 16 := by simp [nS, nums_length]; omega
theorem kS_ctr (key : List Nat) (ct : Nat) (nonce : List Nat) : (kS key 8).set 12 ct = nS key ct nonce 0 := by
  unfold kS nS
  rw [show List.replicate (12 - 8) 0 = 0 :: List.replicate 3 0 from rfl, set_at _ _ _ _ _ (by simp [nums_length])]
  simp [nums]
theorem nS_set (key : List Nat) (ct : Nat) (nonce : List Nat) (i : Nat) (h : i < 3) : (nS key ct nonce i).set (13 + i) (num nonce i) = nS key ct nonce (i + 1) := by
  unfold nS
  rw [nums_succ nonce i]
  obtain ⟨m, hm⟩ : ∃ m, 3 - i = m + 1 := ⟨2 - i, by omega⟩
  rw [hm, show 3 - (i + 1) = m by omega, List.replicate_succ, set_at _ _ _ _ _ (by simp [nums_length]; omega)]
  simp
theorem nS_end (key : List Nat) (ct : Nat) (nonce : List Nat) : nS key ct nonce 3 = start key ct nonce := by simp [nS, start]
def roundsN (s : List Nat) : Nat → List Nat
  | 0 => s
  | n + 1 => steps4 (roundsN s n) (n % 2) 4
theorem roundsN_zero (s : List Nat) : roundsN s 0 = s := rfl
theorem roundsN_succ (s : List Nat) (n : Nat) : roundsN s (n + 1) = steps4 (roundsN s n) (n % 2) 4 := rfl
theorem roundsN_ok {s : List Nat} (h : okS s) : ∀ n, okS (roundsN s n)
  | 0 => h
  | n + 1 => steps4_ok (roundsN_ok h n) _ 4
theorem roundsN_two (s : List Nat) : ∀ r, roundsN s (2 * r) = rounds10 s r
  | 0 => by rw [Nat.mul_zero, roundsN_zero, rounds10_zero]
  | r + 1 => by
    rw [show 2 * (r + 1) = 2 * r + 1 + 1 by omega, roundsN_succ, roundsN_succ, roundsN_two s r, show (2 * r) % 2 = 0 by omega, show (2 * r + 1) % 2 = 1 by omega, rounds10_succ, turns2_succ _ 1, turns2_succ _ 0, turns2_zero]
theorem roundsN_20 (s : List Nat) : roundsN s 20 = rounds10 s 10 := roundsN_two s 10
/-- Four bytes put together. -/
theorem or4 (x0 x1 x2 x3 : Nat) (h0 : x0 < 256) (h1 : x1 < 256) (h2 : x2 < 256) (h3 : x3 < 256) :
    bits .or .u32 (x0 : Int) ((x1 : Int) * 256) = ((x0 + 256 * x1 : Nat) : Int) ∧ bits .or .u32 ((x0 + 256 * x1 : Nat) : Int) ((x2 : Int) * 65536) = ((x0 + 256 * x1 + 65536 * x2 : Nat) : Int) ∧
      bits .or .u32 ((x0 + 256 * x1 + 65536 * x2 : Nat) : Int) ((x3 : Int) * 16777216) = ((x0 + 256 * x1 + 65536 * x2 + 16777216 * x3 : Nat) : Int) := by
  refine ⟨?_, ?_, ?_⟩
  · have := or_part x0 x1 8 (by omega) (by omega)
    rw [show x0 + 256 * x1 = x0 + x1 * 2 ^ 8 by omega]
    simpa using this
  · have := or_part (x0 + 256 * x1) x2 16 (by omega) (by omega)
    rw [show x0 + 256 * x1 + 65536 * x2 = x0 + 256 * x1 + x2 * 2 ^ 16 by omega]
    simpa using this
  · have := or_part (x0 + 256 * x1 + 65536 * x2) x3 24 (by omega) (by omega)
    rw [show x0 + 256 * x1 + 65536 * x2 + 16777216 * x3 = x0 + 256 * x1 + 65536 * x2 + x3 * 2 ^ 24 by omega]
    simpa using this
/-- One number is written into a block: the operation alone. -/
theorem wpo_store_blk {P : Program} {o : Oper} {a : Act} {w : World} {K : Act → World → Prop} {Q : Exit → Act → World → Prop} {ty te : TypeId} {x y : Operand} {B i v : Nat} {k : IntKind} {xs : List Nat} {info : TypeInfo} (ho : o.op = .store ty x y) (hd : o.dst = none)
    (hx : a.eval x = .pointer (some ⟨B, i, none⟩)) (hy : a.eval y = .int k (v : Int)) (hi : P.info? ty = some info) (hs : info.size = 1) (hB : Blk w B te k xs) (hl : i < xs.length)
    (h : Blk (w.setCell ⟨B, i, none⟩ (.int k (v : Int))) B te k (xs.set i v) → K a (w.setCell ⟨B, i, none⟩ (.int k (v : Int)))) : o.wp P a w K Q := by
  unfold Oper.wp
  have hrun : (execOp a.eval o).run P w = .ok .skip (w.setCell ⟨B, i, none⟩ (.int k (v : Int))) := by simp [execOp, ho, hx, hy, run_storeAt_int hi hs (hB.cell i hl) (hB.frozen i)]
  rw [hrun, Oper.upon_skip, hd]
  exact h (hB.set i v)
end Go.Proofs.Ytoehkegbmphlhaa.Ch
