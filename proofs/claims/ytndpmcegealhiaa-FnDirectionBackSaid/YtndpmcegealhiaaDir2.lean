/- Contracts of DirectionOf, both sides; no condition. -/
import Derived.Test.YtndpmcegealhiaaDir
namespace Go.Proofs.Ytndpmcegealhiaa
open Go.RowKit
set_option linter.unusedVariables false
set_option linter.unusedSimpArgs false
set_option maxHeartbeats 2000000

theorem implDir_any (x y : Int) (w : World) : Calls Try.prog 19 #[.agg #[.int .i64 x, .int .i64 y]] w fun e w' => e = .returned (.int .i64 (dirT x y)) ∧ Below w.heap.size w w' := by
  cases hv : vecB 1073741824 x y
  · have e0 : Hid (dirT x y = -1) := by unfold Hid dirT; rw [hv]; rfl
    go_enter Try.func19, Try.ntmps19
    go_wp2_with (go_at_call 23; refine (vwithin_any _ _ _ (by decide) (by decide) _).mono ?_; rintro e w1 ⟨he, hb⟩; rw [hv] at he; subst he)
    go_ret
    exact ⟨ret_int e0.out.symm, (by repeat (first | exact bw_refl _ | assumption | apply bw_alloc | apply bw_drew | apply bw_drewN | (refine bw_trans ?_ (by assumption)) | (refine bw_set ?_ (by simp only [go_sem]; omega) _)))⟩
  · obtain ⟨hx, hy⟩ := vecB_spec _ _ _ hv
    have e0 : Hid (dirT x y = dirF x y) := by unfold Hid dirT; rw [hv]; rfl
    have l0 := Blk.new w 24 #[.int .i64 x, .int .i64 y]
    have HV := Lib.hid hv
    clear hv
    go_enter Try.func19, Try.ntmps19
    go_wp2_with fail
    refine (vwithin_any _ _ _ (by decide) (by decide) _).mono ?_
    rintro e w1 ⟨he, hb⟩
    rw [HV.out] at he
    subst he
    replace l0 := l0.up hb
    have b1 : Below w.heap.size w w1 := (by repeat (first | exact bw_refl _ | assumption | apply bw_alloc | apply bw_drew | apply bw_drewN | (refine bw_trans ?_ (by assumption)) | (refine bw_set ?_ (by simp only [go_sem]; omega) _)))
    clear hb
    obtain ⟨c0, c1, -, -⟩ := l0.rd2
    by_cases hz : x = 0 ∧ y = 0
    · obtain ⟨rfl, rfl⟩ := hz
      have e1 : Hid (dirT 0 0 = 0) := by unfold Hid; rw [e0.out]; rfl
      go_wp2
      go_ret
      exact ⟨ret_int e1.out.symm, (by repeat (first | exact bw_refl _ | assumption | apply bw_alloc | apply bw_drew | apply bw_drewN | (refine bw_trans ?_ (by assumption)) | (refine bw_set ?_ (by simp only [go_sem]; omega) _)))⟩
    have HZ := Lib.hid hz
    have hq9 : ((x == 0) = true ∧ (y == 0) = false) ∨ (x == 0) = false := by
      by_cases hx0 : x = 0
      · exact .inl ⟨beq_iff_eq.2 hx0, beq_eq_false_iff_ne.2 fun h => hz ⟨hx0, h⟩⟩
      · exact .inr (beq_eq_false_iff_ne.2 hx0)
    clear hz
    rcases hq9 with ⟨z1, z2⟩ | z1
    all_goals
     go_wp2_with fail
     clear z1
     go_loopw [3] (fun s wr => ∃ (q : Nat) (X Y : Int), s = .int .i64 q ∧ DirSt x y q X Y ∧ Blk wr w.heap.size 24 #[.int .i64 X, .int .i64 Y] ∧ Below w.heap.size w wr)
       (fun s _ => 4 - (intOf s).toNat)
     case atStart => exact ⟨0, x, y, rfl, .inl ⟨rfl, rfl, rfl⟩, l0, b1⟩
     case round =>
       clear l0 b1
       obtain ⟨q, X, Y, rfl, hD, l0, hb⟩ := hrel
       have HD := Lib.hid hD
       obtain ⟨⟨X0, X1⟩, ⟨Y0, Y1⟩, q3⟩ := dir_bd hD hx hy
       clear hD
       obtain ⟨c0, c1, f0, f1⟩ := l0.rd2
       have z0 := l0.lt
       have w1 : IntKind.i64.wrap (-X) = -X := IntWalk.i64_in _ (by omega)
       by_cases hX : X ≤ 0
       · obtain ⟨q4, hD2⟩ := dir_step HZ.out HD.out (.inl hX)
         have HD2 := Lib.hid hD2
         clear hD2
         go_wp2
         go_roundw
         case rel => exact ⟨q + 1, Y, -X, by go_num, HD2.out, l0.two _ _, bw_set (bw_set hb (p := ⟨w.heap.size, 0, none⟩) (Nat.le_refl _) _) (p := ⟨w.heap.size, 1, none⟩) (Nat.le_refl _) _⟩
         case measure => simp [intOf]; omega
       · by_cases hY : Y < 0
         · obtain ⟨q4, hD2⟩ := dir_step HZ.out HD.out (.inr hY)
           have HD2 := Lib.hid hD2
           clear hD2
           go_wp2
           go_roundw
           case rel => exact ⟨q + 1, Y, -X, by go_num, HD2.out, l0.two _ _, bw_set (bw_set hb (p := ⟨w.heap.size, 0, none⟩) (Nat.le_refl _) _) (p := ⟨w.heap.size, 1, none⟩) (Nat.le_refl _) _⟩
           case measure => simp [intOf]; omega
         · have hE := dir_exit HZ.out HD.out (by omega) (by omega)
           have HE := Lib.hid hE
           clear hE
           have w3 : IntKind.i64.wrap ((q : Int) * 16384) = (q : Int) * 16384 := IntWalk.i64_in _ (by omega)
           have Bq := quarD_bd X Y
           rcases Int.lt_or_le X Y with hlt | hle
           · have M := implEighD_ok Y X (by omega) Y1 (by omega) (by omega)
             have Be := eighD_bd Y X
             have eq : Hid (quarD X Y = 16384 - eighD Y X) := by unfold Hid quarD; rw [if_pos hlt]
             generalize eighD Y X = r at *
             have w4 : IntKind.i64.wrap (16384 - r) = 16384 - r := IntWalk.i64_in _ (by omega)
             go_wp2_with fail
             refine (M _).mono ?_
             rintro e w5 ⟨rfl, hb5⟩
             go_wp2_with (go_at_call 18; refine (implWrap_ok (16384 - r + (q : Int) * 16384) (by omega) (by omega) _).mono ?_; rintro e w' ⟨rfl, rfl⟩)
             go_ret
             exact ⟨ret_int (by rw [e0.out, ← HE.out, eq.out]), (by repeat (first | exact bw_refl _ | assumption | apply bw_alloc | apply bw_drew | apply bw_drewN | (refine bw_trans ?_ (by assumption)) | (refine bw_set ?_ (by simp only [go_sem]; omega) _)))⟩
           · have M := implEighD_ok X Y (by omega) X1 (by omega) hle
             have Be := eighD_bd X Y
             have eq : Hid (quarD X Y = eighD X Y) := by unfold Hid quarD; rw [if_neg (by omega)]
             have hn : ¬ X < Y := by omega
             generalize eighD X Y = r at *
             go_wp2_with fail
             refine (M _).mono ?_
             rintro e w5 ⟨rfl, hb5⟩
             go_wp2_with (go_at_call 18; refine (implWrap_ok (r + (q : Int) * 16384) (by omega) (by omega) _).mono ?_; rintro e w' ⟨rfl, rfl⟩)
             go_ret
             exact ⟨ret_int (by rw [e0.out, ← HE.out, eq.out]), (by repeat (first | exact bw_refl _ | assumption | apply bw_alloc | apply bw_drew | apply bw_drewN | (refine bw_trans ?_ (by assumption)) | (refine bw_set ?_ (by simp only [go_sem]; omega) _)))⟩
end Go.Proofs.Ytndpmcegealhiaa
