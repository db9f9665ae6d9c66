/- What the law of SineSpan needs of each angle of an eighth, reckoned by the kernel for each; no condition. -/
import Derived.Test.YtdojgkjgjfclaaaFactS
namespace Go.Proofs.Ytdojgkjgjfclaaa
open Go.RowKit
set_option linter.unusedVariables false

def factAB (a : Nat) : Bool :=
  decide (0 ≤ sinX (arcLow a) (arcHigh a)) &&
  decide (sinX (arcLow a) (arcHigh a) ≤ sinY (arcLow a) (arcHigh a)) &&
  decide (sinY (arcLow a) (arcHigh a) - sinX (arcLow a) (arcHigh a) ≤ 12000) &&
  decide (sinY (arcLow a) (arcHigh a) ≤ 200000000) &&
  decide (sinX (arcLow a) (arcHigh a) < sinY (arcLow (a + 1)) (arcHigh (a + 1)))
theorem factA0 : allT factAB 9 0 = true := by decide +kernel
theorem factA1 : allT factAB 9 1 = true := by decide +kernel
theorem factA2 : allT factAB 9 2 = true := by decide +kernel
theorem factA3 : allT factAB 9 3 = true := by decide +kernel
theorem factA4 : allT factAB 9 4 = true := by decide +kernel
theorem factA5 : allT factAB 9 5 = true := by decide +kernel
theorem factA6 : allT factAB 9 6 = true := by decide +kernel
theorem factA7 : allT factAB 9 7 = true := by decide +kernel
theorem factA8 : allT factAB 9 8 = true := by decide +kernel
theorem factA9 : allT factAB 9 9 = true := by decide +kernel
theorem factA10 : allT factAB 9 10 = true := by decide +kernel
theorem factA11 : allT factAB 9 11 = true := by decide +kernel
theorem factA12 : allT factAB 9 12 = true := by decide +kernel
theorem factA13 : allT factAB 9 13 = true := by decide +kernel
theorem factA14 : allT factAB 9 14 = true := by decide +kernel
theorem factA15 : allT factAB 9 15 = true := by decide +kernel
theorem factAEnd : factAB 8192 = true := by decide +kernel
theorem factA_all (k : Nat) (h : k ≤ 8192) : factAB k = true := by
  by_cases h0 : k < 512
  · exact allT_rng factA0 0 512 (by decide) (by decide) k (by omega) h0
  by_cases h1 : k < 1024
  · exact allT_rng factA1 512 1024 (by decide) (by decide) k (by omega) h1
  by_cases h2 : k < 1536
  · exact allT_rng factA2 1024 1536 (by decide) (by decide) k (by omega) h2
  by_cases h3 : k < 2048
  · exact allT_rng factA3 1536 2048 (by decide) (by decide) k (by omega) h3
  by_cases h4 : k < 2560
  · exact allT_rng factA4 2048 2560 (by decide) (by decide) k (by omega) h4
  by_cases h5 : k < 3072
  · exact allT_rng factA5 2560 3072 (by decide) (by decide) k (by omega) h5
  by_cases h6 : k < 3584
  · exact allT_rng factA6 3072 3584 (by decide) (by decide) k (by omega) h6
  by_cases h7 : k < 4096
  · exact allT_rng factA7 3584 4096 (by decide) (by decide) k (by omega) h7
  by_cases h8 : k < 4608
  · exact allT_rng factA8 4096 4608 (by decide) (by decide) k (by omega) h8
  by_cases h9 : k < 5120
  · exact allT_rng factA9 4608 5120 (by decide) (by decide) k (by omega) h9
  by_cases h10 : k < 5632
  · exact allT_rng factA10 5120 5632 (by decide) (by decide) k (by omega) h10
  by_cases h11 : k < 6144
  · exact allT_rng factA11 5632 6144 (by decide) (by decide) k (by omega) h11
  by_cases h12 : k < 6656
  · exact allT_rng factA12 6144 6656 (by decide) (by decide) k (by omega) h12
  by_cases h13 : k < 7168
  · exact allT_rng factA13 6656 7168 (by decide) (by decide) k (by omega) h13
  by_cases h14 : k < 7680
  · exact allT_rng factA14 7168 7680 (by decide) (by decide) k (by omega) h14
  by_cases h15 : k < 8192
  · exact allT_rng factA15 7680 8192 (by decide) (by decide) k (by omega) h15
  have e : k = 8192 := by omega
  rw [e]; exact factAEnd
end Go.Proofs.Ytdojgkjgjfclaaa
