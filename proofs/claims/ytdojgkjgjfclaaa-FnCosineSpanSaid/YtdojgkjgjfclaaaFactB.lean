/- What the law of CosineSpan needs of each angle of an eighth, reckoned by the kernel for each; no condition. -/
import Derived.Test.YtdojgkjgjfclaaaFactS
namespace Go.Proofs.Ytdojgkjgjfclaaa
open Go.RowKit
set_option linter.unusedVariables false

def factBB (a : Nat) : Bool :=
  decide (0 ≤ sinX (arcLow a) (arcHigh a)) &&
  decide (sinX (arcLow a) (arcHigh a) ≤ sinY (arcLow a) (arcHigh a)) &&
  decide (sinY (arcLow a) (arcHigh a) ≤ 200000000) &&
  decide (100000000 ≤ cosX (arcLow a) (arcHigh a)) &&
  decide (cosX (arcLow a) (arcHigh a) ≤ cosY (arcLow a) (arcHigh a)) &&
  decide (cosY (arcLow a) (arcHigh a) - cosX (arcLow a) (arcHigh a) ≤ 100000) &&
  decide (cosY (arcLow a) (arcHigh a) ≤ 268435456) &&
  decide (sqL (cosX (arcLow a) (arcHigh a)) + sqL (sinX (arcLow a) (arcHigh a)) ≤ 268435456) &&
  decide (268435456 ≤ sqH (cosY (arcLow a) (arcHigh a)) + sqH (sinY (arcLow a) (arcHigh a)))
theorem factB0 : allT factBB 9 0 = true := by decide +kernel
theorem factB1 : allT factBB 9 1 = true := by decide +kernel
theorem factB2 : allT factBB 9 2 = true := by decide +kernel
theorem factB3 : allT factBB 9 3 = true := by decide +kernel
theorem factB4 : allT factBB 9 4 = true := by decide +kernel
theorem factB5 : allT factBB 9 5 = true := by decide +kernel
theorem factB6 : allT factBB 9 6 = true := by decide +kernel
theorem factB7 : allT factBB 9 7 = true := by decide +kernel
theorem factB8 : allT factBB 9 8 = true := by decide +kernel
theorem factB9 : allT factBB 9 9 = true := by decide +kernel
theorem factB10 : allT factBB 9 10 = true := by decide +kernel
theorem factB11 : allT factBB 9 11 = true := by decide +kernel
theorem factB12 : allT factBB 9 12 = true := by decide +kernel
theorem factB13 : allT factBB 9 13 = true := by decide +kernel
theorem factB14 : allT factBB 9 14 = true := by decide +kernel
theorem factB15 : allT factBB 9 15 = true := by decide +kernel
theorem factBEnd : factBB 8192 = true := by decide +kernel
theorem factB_all (k : Nat) (h : k ≤ 8192) : factBB k = true := by
  by_cases h0 : k < 512
  · exact allT_rng factB0 0 512 (by decide) (by decide) k (by omega) h0
  by_cases h1 : k < 1024
  · exact allT_rng factB1 512 1024 (by decide) (by decide) k (by omega) h1
  by_cases h2 : k < 1536
  · exact allT_rng factB2 1024 1536 (by decide) (by decide) k (by omega) h2
  by_cases h3 : k < 2048
  · exact allT_rng factB3 1536 2048 (by decide) (by decide) k (by omega) h3
  by_cases h4 : k < 2560
  · exact allT_rng factB4 2048 2560 (by decide) (by decide) k (by omega) h4
  by_cases h5 : k < 3072
  · exact allT_rng factB5 2560 3072 (by decide) (by decide) k (by omega) h5
  by_cases h6 : k < 3584
  · exact allT_rng factB6 3072 3584 (by decide) (by decide) k (by omega) h6
  by_cases h7 : k < 4096
  · exact allT_rng factB7 3584 4096 (by decide) (by decide) k (by omega) h7
  by_cases h8 : k < 4608
  · exact allT_rng factB8 4096 4608 (by decide) (by decide) k (by omega) h8
  by_cases h9 : k < 5120
  · exact allT_rng factB9 4608 5120 (by decide) (by decide) k (by omega) h9
  by_cases h10 : k < 5632
  · exact allT_rng factB10 5120 5632 (by decide) (by decide) k (by omega) h10
  by_cases h11 : k < 6144
  · exact allT_rng factB11 5632 6144 (by decide) (by decide) k (by omega) h11
  by_cases h12 : k < 6656
  · exact allT_rng factB12 6144 6656 (by decide) (by decide) k (by omega) h12
  by_cases h13 : k < 7168
  · exact allT_rng factB13 6656 7168 (by decide) (by decide) k (by omega) h13
  by_cases h14 : k < 7680
  · exact allT_rng factB14 7168 7680 (by decide) (by decide) k (by omega) h14
  by_cases h15 : k < 8192
  · exact allT_rng factB15 7680 8192 (by decide) (by decide) k (by omega) h15
  have e : k = 8192 := by omega
  rw [e]; exact factBEnd
end Go.Proofs.Ytdojgkjgjfclaaa
