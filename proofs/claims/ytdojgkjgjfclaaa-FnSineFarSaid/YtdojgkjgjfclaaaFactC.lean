/- What the law of SineFar needs of each angle of an eighth, reckoned by the kernel for each; no condition. -/
import Derived.Test.YtdojgkjgjfclaaaFactS
namespace Go.Proofs.Ytdojgkjgjfclaaa
open Go.RowKit
set_option linter.unusedVariables false

def factCB (a : Nat) : Bool :=
  decide (sinX (arcLow a) (arcHigh a) - eighS a * 16384 ≤ 16384) &&
  decide (eighS a * 16384 - sinY (arcLow a) (arcHigh a) ≤ 16384)
theorem factC0 : allT factCB 9 0 = true := by decide +kernel
theorem factC1 : allT factCB 9 1 = true := by decide +kernel
theorem factC2 : allT factCB 9 2 = true := by decide +kernel
theorem factC3 : allT factCB 9 3 = true := by decide +kernel
theorem factC4 : allT factCB 9 4 = true := by decide +kernel
theorem factC5 : allT factCB 9 5 = true := by decide +kernel
theorem factC6 : allT factCB 9 6 = true := by decide +kernel
theorem factC7 : allT factCB 9 7 = true := by decide +kernel
theorem factC8 : allT factCB 9 8 = true := by decide +kernel
theorem factC9 : allT factCB 9 9 = true := by decide +kernel
theorem factC10 : allT factCB 9 10 = true := by decide +kernel
theorem factC11 : allT factCB 9 11 = true := by decide +kernel
theorem factC12 : allT factCB 9 12 = true := by decide +kernel
theorem factC13 : allT factCB 9 13 = true := by decide +kernel
theorem factC14 : allT factCB 9 14 = true := by decide +kernel
theorem factC15 : allT factCB 9 15 = true := by decide +kernel
theorem factCEnd : factCB 8192 = true := by decide +kernel
theorem factC_all (k : Nat) (h : k ≤ 8192) : factCB k = true := by
  by_cases h0 : k < 512
  · exact allT_rng factC0 0 512 (by decide) (by decide) k (by omega) h0
  by_cases h1 : k < 1024
  · exact allT_rng factC1 512 1024 (by decide) (by decide) k (by omega) h1
  by_cases h2 : k < 1536
  · exact allT_rng factC2 1024 1536 (by decide) (by decide) k (by omega) h2
  by_cases h3 : k < 2048
  · exact allT_rng factC3 1536 2048 (by decide) (by decide) k (by omega) h3
  by_cases h4 : k < 2560
  · exact allT_rng factC4 2048 2560 (by decide) (by decide) k (by omega) h4
  by_cases h5 : k < 3072
  · exact allT_rng factC5 2560 3072 (by decide) (by decide) k (by omega) h5
  by_cases h6 : k < 3584
  · exact allT_rng factC6 3072 3584 (by decide) (by decide) k (by omega) h6
  by_cases h7 : k < 4096
  · exact allT_rng factC7 3584 4096 (by decide) (by decide) k (by omega) h7
  by_cases h8 : k < 4608
  · exact allT_rng factC8 4096 4608 (by decide) (by decide) k (by omega) h8
  by_cases h9 : k < 5120
  · exact allT_rng factC9 4608 5120 (by decide) (by decide) k (by omega) h9
  by_cases h10 : k < 5632
  · exact allT_rng factC10 5120 5632 (by decide) (by decide) k (by omega) h10
  by_cases h11 : k < 6144
  · exact allT_rng factC11 5632 6144 (by decide) (by decide) k (by omega) h11
  by_cases h12 : k < 6656
  · exact allT_rng factC12 6144 6656 (by decide) (by decide) k (by omega) h12
  by_cases h13 : k < 7168
  · exact allT_rng factC13 6656 7168 (by decide) (by decide) k (by omega) h13
  by_cases h14 : k < 7680
  · exact allT_rng factC14 7168 7680 (by decide) (by decide) k (by omega) h14
  by_cases h15 : k < 8192
  · exact allT_rng factC15 7680 8192 (by decide) (by decide) k (by omega) h15
  have e : k = 8192 := by omega
  rw [e]; exact factCEnd
end Go.Proofs.Ytdojgkjgjfclaaa
