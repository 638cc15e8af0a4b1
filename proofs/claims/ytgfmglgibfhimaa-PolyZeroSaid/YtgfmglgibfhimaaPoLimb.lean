/- Plain: the limbs of a number that gets one byte more: byte i. -/
import Derived.Test.YtgfmglgibfhimaaPoPlain3
namespace Go.Proofs.Ytgfmglgibfhimaa.Po
set_option linter.unusedSimpArgs false
set_option linter.unusedVariables false
theorem limbs_def (n : Nat) : limbs n = [n % 67108864, n / 67108864 % 67108864, n / 4503599627370496 % 67108864, n / 302231454903657293676544 % 67108864, n / 20282409603651670423947251286016 % 67108864] := by unfold limbs; rfl
theorem lst0 (n x : Nat) (hn : n < 1) (hx : x < 256) : limbs (n + 1 * x) = (limbs n).set 0 ((limbs n).getD 0 0 + x * 1 % 67108864) ∧ (limbs n).getD 0 0 < 1 := by
  rw [limbs_def, limbs_def]
  simp only [List.set_cons_zero, List.set_cons_succ, List.getD_cons_zero, List.getD_cons_succ]
  refine ⟨?_, by omega⟩
  refine congr (congrArg List.cons ?_) (congr (congrArg List.cons ?_) (congr (congrArg List.cons ?_) (congr (congrArg List.cons ?_) (congr (congrArg List.cons ?_) rfl))))
  all_goals omega
theorem lst1 (n x : Nat) (hn : n < 256) (hx : x < 256) : limbs (n + 256 * x) = (limbs n).set 0 ((limbs n).getD 0 0 + x * 256 % 67108864) ∧ (limbs n).getD 0 0 < 256 := by
  rw [limbs_def, limbs_def]
  simp only [List.set_cons_zero, List.set_cons_succ, List.getD_cons_zero, List.getD_cons_succ]
  refine ⟨?_, by omega⟩
  refine congr (congrArg List.cons ?_) (congr (congrArg List.cons ?_) (congr (congrArg List.cons ?_) (congr (congrArg List.cons ?_) (congr (congrArg List.cons ?_) rfl))))
  all_goals omega
theorem lst2 (n x : Nat) (hn : n < 65536) (hx : x < 256) : limbs (n + 65536 * x) = (limbs n).set 0 ((limbs n).getD 0 0 + x * 65536 % 67108864) ∧ (limbs n).getD 0 0 < 65536 := by
  rw [limbs_def, limbs_def]
  simp only [List.set_cons_zero, List.set_cons_succ, List.getD_cons_zero, List.getD_cons_succ]
  refine ⟨?_, by omega⟩
  refine congr (congrArg List.cons ?_) (congr (congrArg List.cons ?_) (congr (congrArg List.cons ?_) (congr (congrArg List.cons ?_) (congr (congrArg List.cons ?_) rfl))))
  all_goals omega
theorem lst3 (n x : Nat) (hn : n < 16777216) (hx : x < 256) (ho : x / 4 = 0) : limbs (n + 16777216 * x) = (limbs n).set 0 ((limbs n).getD 0 0 + x * 16777216 % 67108864) ∧ (limbs n).getD 0 0 < 16777216 := by
  rw [limbs_def, limbs_def]
  simp only [List.set_cons_zero, List.set_cons_succ, List.getD_cons_zero, List.getD_cons_succ]
  refine ⟨?_, by omega⟩
  refine congr (congrArg List.cons ?_) (congr (congrArg List.cons ?_) (congr (congrArg List.cons ?_) (congr (congrArg List.cons ?_) (congr (congrArg List.cons ?_) rfl))))
  all_goals omega
theorem lst3_o (n x : Nat) (hn : n < 16777216) (hx : x < 256) : limbs (n + 16777216 * x) = ((limbs n).set 0 ((limbs n).getD 0 0 + x * 16777216 % 67108864)).set 1 (x / 4) ∧ (limbs n).getD 0 0 < 16777216 ∧ (limbs n).getD 1 0 = 0 := by
  rw [limbs_def, limbs_def]
  simp only [List.set_cons_zero, List.set_cons_succ, List.getD_cons_zero, List.getD_cons_succ]
  refine ⟨?_, by omega, by omega⟩
  refine congr (congrArg List.cons ?_) (congr (congrArg List.cons ?_) (congr (congrArg List.cons ?_) (congr (congrArg List.cons ?_) (congr (congrArg List.cons ?_) rfl))))
  all_goals omega
theorem lst4 (n x : Nat) (hn : n < 4294967296) (hx : x < 256) : limbs (n + 4294967296 * x) = (limbs n).set 1 ((limbs n).getD 1 0 + x * 64 % 67108864) ∧ (limbs n).getD 1 0 < 64 := by
  rw [limbs_def, limbs_def]
  simp only [List.set_cons_zero, List.set_cons_succ, List.getD_cons_zero, List.getD_cons_succ]
  refine ⟨?_, by omega⟩
  refine congr (congrArg List.cons ?_) (congr (congrArg List.cons ?_) (congr (congrArg List.cons ?_) (congr (congrArg List.cons ?_) (congr (congrArg List.cons ?_) rfl))))
  all_goals omega
theorem lst5 (n x : Nat) (hn : n < 1099511627776) (hx : x < 256) : limbs (n + 1099511627776 * x) = (limbs n).set 1 ((limbs n).getD 1 0 + x * 16384 % 67108864) ∧ (limbs n).getD 1 0 < 16384 := by
  rw [limbs_def, limbs_def]
  simp only [List.set_cons_zero, List.set_cons_succ, List.getD_cons_zero, List.getD_cons_succ]
  refine ⟨?_, by omega⟩
  refine congr (congrArg List.cons ?_) (congr (congrArg List.cons ?_) (congr (congrArg List.cons ?_) (congr (congrArg List.cons ?_) (congr (congrArg List.cons ?_) rfl))))
  all_goals omega
theorem lst6 (n x : Nat) (hn : n < 281474976710656) (hx : x < 256) (ho : x / 16 = 0) : limbs (n + 281474976710656 * x) = (limbs n).set 1 ((limbs n).getD 1 0 + x * 4194304 % 67108864) ∧ (limbs n).getD 1 0 < 4194304 := by
  rw [limbs_def, limbs_def]
  simp only [List.set_cons_zero, List.set_cons_succ, List.getD_cons_zero, List.getD_cons_succ]
  refine ⟨?_, by omega⟩
  refine congr (congrArg List.cons ?_) (congr (congrArg List.cons ?_) (congr (congrArg List.cons ?_) (congr (congrArg List.cons ?_) (congr (congrArg List.cons ?_) rfl))))
  all_goals omega
theorem lst6_o (n x : Nat) (hn : n < 281474976710656) (hx : x < 256) : limbs (n + 281474976710656 * x) = ((limbs n).set 1 ((limbs n).getD 1 0 + x * 4194304 % 67108864)).set 2 (x / 16) ∧ (limbs n).getD 1 0 < 4194304 ∧ (limbs n).getD 2 0 = 0 := by
  rw [limbs_def, limbs_def]
  simp only [List.set_cons_zero, List.set_cons_succ, List.getD_cons_zero, List.getD_cons_succ]
  refine ⟨?_, by omega, by omega⟩
  refine congr (congrArg List.cons ?_) (congr (congrArg List.cons ?_) (congr (congrArg List.cons ?_) (congr (congrArg List.cons ?_) (congr (congrArg List.cons ?_) rfl))))
  all_goals omega
theorem lst7 (n x : Nat) (hn : n < 72057594037927936) (hx : x < 256) : limbs (n + 72057594037927936 * x) = (limbs n).set 2 ((limbs n).getD 2 0 + x * 16 % 67108864) ∧ (limbs n).getD 2 0 < 16 := by
  rw [limbs_def, limbs_def]
  simp only [List.set_cons_zero, List.set_cons_succ, List.getD_cons_zero, List.getD_cons_succ]
  refine ⟨?_, by omega⟩
  refine congr (congrArg List.cons ?_) (congr (congrArg List.cons ?_) (congr (congrArg List.cons ?_) (congr (congrArg List.cons ?_) (congr (congrArg List.cons ?_) rfl))))
  all_goals omega
theorem lst8 (n x : Nat) (hn : n < 18446744073709551616) (hx : x < 256) : limbs (n + 18446744073709551616 * x) = (limbs n).set 2 ((limbs n).getD 2 0 + x * 4096 % 67108864) ∧ (limbs n).getD 2 0 < 4096 := by
  rw [limbs_def, limbs_def]
  simp only [List.set_cons_zero, List.set_cons_succ, List.getD_cons_zero, List.getD_cons_succ]
  refine ⟨?_, by omega⟩
  refine congr (congrArg List.cons ?_) (congr (congrArg List.cons ?_) (congr (congrArg List.cons ?_) (congr (congrArg List.cons ?_) (congr (congrArg List.cons ?_) rfl))))
  all_goals omega
theorem lst9 (n x : Nat) (hn : n < 4722366482869645213696) (hx : x < 256) (ho : x / 64 = 0) : limbs (n + 4722366482869645213696 * x) = (limbs n).set 2 ((limbs n).getD 2 0 + x * 1048576 % 67108864) ∧ (limbs n).getD 2 0 < 1048576 := by
  rw [limbs_def, limbs_def]
  simp only [List.set_cons_zero, List.set_cons_succ, List.getD_cons_zero, List.getD_cons_succ]
  refine ⟨?_, by omega⟩
  refine congr (congrArg List.cons ?_) (congr (congrArg List.cons ?_) (congr (congrArg List.cons ?_) (congr (congrArg List.cons ?_) (congr (congrArg List.cons ?_) rfl))))
  all_goals omega
theorem lst9_o (n x : Nat) (hn : n < 4722366482869645213696) (hx : x < 256) : limbs (n + 4722366482869645213696 * x) = ((limbs n).set 2 ((limbs n).getD 2 0 + x * 1048576 % 67108864)).set 3 (x / 64) ∧ (limbs n).getD 2 0 < 1048576 ∧ (limbs n).getD 3 0 = 0 := by
  rw [limbs_def, limbs_def]
  simp only [List.set_cons_zero, List.set_cons_succ, List.getD_cons_zero, List.getD_cons_succ]
  refine ⟨?_, by omega, by omega⟩
  refine congr (congrArg List.cons ?_) (congr (congrArg List.cons ?_) (congr (congrArg List.cons ?_) (congr (congrArg List.cons ?_) (congr (congrArg List.cons ?_) rfl))))
  all_goals omega
theorem lst10 (n x : Nat) (hn : n < 1208925819614629174706176) (hx : x < 256) : limbs (n + 1208925819614629174706176 * x) = (limbs n).set 3 ((limbs n).getD 3 0 + x * 4 % 67108864) ∧ (limbs n).getD 3 0 < 4 := by
  rw [limbs_def, limbs_def]
  simp only [List.set_cons_zero, List.set_cons_succ, List.getD_cons_zero, List.getD_cons_succ]
  refine ⟨?_, by omega⟩
  refine congr (congrArg List.cons ?_) (congr (congrArg List.cons ?_) (congr (congrArg List.cons ?_) (congr (congrArg List.cons ?_) (congr (congrArg List.cons ?_) rfl))))
  all_goals omega
theorem lst11 (n x : Nat) (hn : n < 309485009821345068724781056) (hx : x < 256) : limbs (n + 309485009821345068724781056 * x) = (limbs n).set 3 ((limbs n).getD 3 0 + x * 1024 % 67108864) ∧ (limbs n).getD 3 0 < 1024 := by
  rw [limbs_def, limbs_def]
  simp only [List.set_cons_zero, List.set_cons_succ, List.getD_cons_zero, List.getD_cons_succ]
  refine ⟨?_, by omega⟩
  refine congr (congrArg List.cons ?_) (congr (congrArg List.cons ?_) (congr (congrArg List.cons ?_) (congr (congrArg List.cons ?_) (congr (congrArg List.cons ?_) rfl))))
  all_goals omega
theorem lst12 (n x : Nat) (hn : n < 79228162514264337593543950336) (hx : x < 256) : limbs (n + 79228162514264337593543950336 * x) = (limbs n).set 3 ((limbs n).getD 3 0 + x * 262144 % 67108864) ∧ (limbs n).getD 3 0 < 262144 := by
  rw [limbs_def, limbs_def]
  simp only [List.set_cons_zero, List.set_cons_succ, List.getD_cons_zero, List.getD_cons_succ]
  refine ⟨?_, by omega⟩
  refine congr (congrArg List.cons ?_) (congr (congrArg List.cons ?_) (congr (congrArg List.cons ?_) (congr (congrArg List.cons ?_) (congr (congrArg List.cons ?_) rfl))))
  all_goals omega
theorem lst13 (n x : Nat) (hn : n < 20282409603651670423947251286016) (hx : x < 256) : limbs (n + 20282409603651670423947251286016 * x) = (limbs n).set 4 ((limbs n).getD 4 0 + x * 1 % 67108864) ∧ (limbs n).getD 4 0 < 1 := by
  rw [limbs_def, limbs_def]
  simp only [List.set_cons_zero, List.set_cons_succ, List.getD_cons_zero, List.getD_cons_succ]
  refine ⟨?_, by omega⟩
  refine congr (congrArg List.cons ?_) (congr (congrArg List.cons ?_) (congr (congrArg List.cons ?_) (congr (congrArg List.cons ?_) (congr (congrArg List.cons ?_) rfl))))
  all_goals omega
theorem lst14 (n x : Nat) (hn : n < 5192296858534827628530496329220096) (hx : x < 256) : limbs (n + 5192296858534827628530496329220096 * x) = (limbs n).set 4 ((limbs n).getD 4 0 + x * 256 % 67108864) ∧ (limbs n).getD 4 0 < 256 := by
  rw [limbs_def, limbs_def]
  simp only [List.set_cons_zero, List.set_cons_succ, List.getD_cons_zero, List.getD_cons_succ]
  refine ⟨?_, by omega⟩
  refine congr (congrArg List.cons ?_) (congr (congrArg List.cons ?_) (congr (congrArg List.cons ?_) (congr (congrArg List.cons ?_) (congr (congrArg List.cons ?_) rfl))))
  all_goals omega
theorem lst15 (n x : Nat) (hn : n < 1329227995784915872903807060280344576) (hx : x < 256) : limbs (n + 1329227995784915872903807060280344576 * x) = (limbs n).set 4 ((limbs n).getD 4 0 + x * 65536 % 67108864) ∧ (limbs n).getD 4 0 < 65536 := by
  rw [limbs_def, limbs_def]
  simp only [List.set_cons_zero, List.set_cons_succ, List.getD_cons_zero, List.getD_cons_succ]
  refine ⟨?_, by omega⟩
  refine congr (congrArg List.cons ?_) (congr (congrArg List.cons ?_) (congr (congrArg List.cons ?_) (congr (congrArg List.cons ?_) (congr (congrArg List.cons ?_) rfl))))
  all_goals omega
theorem lst16 (n x : Nat) (hn : n < 340282366920938463463374607431768211456) (hx : x < 4) : limbs (n + 340282366920938463463374607431768211456 * x) = (limbs n).set 4 ((limbs n).getD 4 0 + x * 16777216 % 67108864) ∧ (limbs n).getD 4 0 < 16777216 := by
  rw [limbs_def, limbs_def]
  simp only [List.set_cons_zero, List.set_cons_succ, List.getD_cons_zero, List.getD_cons_succ]
  refine ⟨?_, by omega⟩
  refine congr (congrArg List.cons ?_) (congr (congrArg List.cons ?_) (congr (congrArg List.cons ?_) (congr (congrArg List.cons ?_) (congr (congrArg List.cons ?_) rfl))))
  all_goals omega
end Go.Proofs.Ytgfmglgibfhimaa.Po
