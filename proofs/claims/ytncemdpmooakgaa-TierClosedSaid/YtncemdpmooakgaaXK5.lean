-- printed by xprint.py
import Derived.Test.YtncemdpmooakgaaXK0
import Derived.Test.YtncemdpmooakgaaXK4
namespace Go.Proofs.Ytncemdpmooakgaa.XK
open Go.Proofs.Ytncemdpmooakgaa.XW
open Go.RowKit Go.Proofs.YtncemdpmooakgaaW.PrintWords Go.Proofs.YtncemdpmooakgaaW.PrintLast Go.Proofs.YtncemdpmooakgaaW.PrintMore
attribute [local go_sem] max2_int min2_int max_two min_two max_three min_three max_four min_four   -- for this text's walks alone
set_option linter.unusedVariables false
set_option linter.unusedSimpArgs false

/-! ### culetref16_Positions: function 22 -/
mutual
def culetref16_Positions.l0 : Nat → Int → Bool → List Int → Int → ByteArray → Int → Int → List Int → Int → Bool → ByteArray → Bool → ByteArray → Bool → ByteArray → Bool → ByteArray → Bool → ByteArray → Bool → ByteArray → Bool → ByteArray → Bool → ByteArray → Bool → ByteArray → Bool → ByteArray → Bool → ByteArray → Bool → ByteArray → Bool → ByteArray → Bool → ByteArray → Bool → ByteArray → Bool → ByteArray → Bool → ByteArray → Bool → ByteArray → Bool → ByteArray → Bool → ByteArray → List (S64) → Option (List Int)
  | 0, _, _, _, _, _, _, _, _, _, _, _, _, _, _, _, _, _, _, _, _, _, _, _, _, _, _, _, _, _, _, _, _, _, _, _, _, _, _, _, _, _, _, _, _, _, _, _, _, _, _ => none
  | k + 1, x0, x1, x7, x8, x131000, x131001, x131002, x131003, x131004, x131005, x131006, x131007, x131008, x131009, x131010, x131011, x131012, x131013, x131014, x131015, x131016, x131017, x131018, x131019, x131020, x131021, x131022, x131023, x131024, x131025, x131026, x131027, x131028, x131029, x131030, x131031, x131032, x131033, x131034, x131035, x131036, x131037, x131038, x131039, x131040, x131041, x131042, x131043, x131044, x131045 => if x8 < 24 then (culetref16_Positions.l1 k x0 x1 x7 x8 false 0 x131000 x131001 x131002 x131003 x131004 x131005 x131006 x131007 x131008 x131009 x131010 x131011 x131012 x131013 x131014 x131015 x131016 x131017 x131018 x131019 x131020 x131021 x131022 x131023 x131024 x131025 x131026 x131027 x131028 x131029 x131030 x131031 x131032 x131033 x131034 x131035 x131036 x131037 x131038 x131039 x131040 x131041 x131042 x131043 x131044 x131045) else (some x7)
def culetref16_Positions.l1 : Nat → Int → Bool → List Int → Int → Bool → Int → ByteArray → Int → Int → List Int → Int → Bool → ByteArray → Bool → ByteArray → Bool → ByteArray → Bool → ByteArray → Bool → ByteArray → Bool → ByteArray → Bool → ByteArray → Bool → ByteArray → Bool → ByteArray → Bool → ByteArray → Bool → ByteArray → Bool → ByteArray → Bool → ByteArray → Bool → ByteArray → Bool → ByteArray → Bool → ByteArray → Bool → ByteArray → Bool → ByteArray → Bool → ByteArray → Bool → ByteArray → List (S64) → Option (List Int)
  | 0, _, _, _, _, _, _, _, _, _, _, _, _, _, _, _, _, _, _, _, _, _, _, _, _, _, _, _, _, _, _, _, _, _, _, _, _, _, _, _, _, _, _, _, _, _, _, _, _, _, _, _, _ => none
  | k + 1, x0, x1, x7, x8, x9, x10, x131000, x131001, x131002, x131003, x131004, x131005, x131006, x131007, x131008, x131009, x131010, x131011, x131012, x131013, x131014, x131015, x131016, x131017, x131018, x131019, x131020, x131021, x131022, x131023, x131024, x131025, x131026, x131027, x131028, x131029, x131030, x131031, x131032, x131033, x131034, x131035, x131036, x131037, x131038, x131039, x131040, x131041, x131042, x131043, x131044, x131045 => if x10 < (x131003.length : Int) then (culetref16_Positions.j2 k x0 x1 x7 x8 x9 x10 (!x9) x131000 x131001 x131002 x131003 x131004 x131005 x131006 x131007 x131008 x131009 x131010 x131011 x131012 x131013 x131014 x131015 x131016 x131017 x131018 x131019 x131020 x131021 x131022 x131023 x131024 x131025 x131026 x131027 x131028 x131029 x131030 x131031 x131032 x131033 x131034 x131035 x131036 x131037 x131038 x131039 x131040 x131041 x131042 x131043 x131044 x131045) else (culetref16_Positions.j2 k x0 x1 x7 x8 x9 x10 false x131000 x131001 x131002 x131003 x131004 x131005 x131006 x131007 x131008 x131009 x131010 x131011 x131012 x131013 x131014 x131015 x131016 x131017 x131018 x131019 x131020 x131021 x131022 x131023 x131024 x131025 x131026 x131027 x131028 x131029 x131030 x131031 x131032 x131033 x131034 x131035 x131036 x131037 x131038 x131039 x131040 x131041 x131042 x131043 x131044 x131045)
def culetref16_Positions.j2 : Nat → Int → Bool → List Int → Int → Bool → Int → Bool → ByteArray → Int → Int → List Int → Int → Bool → ByteArray → Bool → ByteArray → Bool → ByteArray → Bool → ByteArray → Bool → ByteArray → Bool → ByteArray → Bool → ByteArray → Bool → ByteArray → Bool → ByteArray → Bool → ByteArray → Bool → ByteArray → Bool → ByteArray → Bool → ByteArray → Bool → ByteArray → Bool → ByteArray → Bool → ByteArray → Bool → ByteArray → Bool → ByteArray → Bool → ByteArray → Bool → ByteArray → List (S64) → Option (List Int)
  | 0, _, _, _, _, _, _, _, _, _, _, _, _, _, _, _, _, _, _, _, _, _, _, _, _, _, _, _, _, _, _, _, _, _, _, _, _, _, _, _, _, _, _, _, _, _, _, _, _, _, _, _, _, _ => none
  | k + 1, x0, x1, x7, x8, x9, x10, x30, x131000, x131001, x131002, x131003, x131004, x131005, x131006, x131007, x131008, x131009, x131010, x131011, x131012, x131013, x131014, x131015, x131016, x131017, x131018, x131019, x131020, x131021, x131022, x131023, x131024, x131025, x131026, x131027, x131028, x131029, x131030, x131031, x131032, x131033, x131034, x131035, x131036, x131037, x131038, x131039, x131040, x131041, x131042, x131043, x131044, x131045 => if x30 = true then (if 0 ≤ x10 then (if x10 < (x131003.length : Int) then ((culetref16_Orbit.f k x0 x1 (rd x131003 x10)).bind fun t136 => ((culetref16_Has.f k t136 x8).bind fun t139 => (culetref16_Positions.l1 k x0 x1 x7 x8 t139 (wrap64 (x10 + 1)) x131000 x131001 x131002 x131003 x131004 x131005 x131006 x131007 x131008 x131009 x131010 x131011 x131012 x131013 x131014 x131015 x131016 x131017 x131018 x131019 x131020 x131021 x131022 x131023 x131024 x131025 x131026 x131027 x131028 x131029 x131030 x131031 x131032 x131033 x131034 x131035 x131036 x131037 x131038 x131039 x131040 x131041 x131042 x131043 x131044 x131045))) else (none)) else (none)) else (if x9 = true then (if x7.length < 17592186044416 then (culetref16_Positions.l0 k x0 x1 (x7 ++ [x8]) (wrap64 (x8 + 1)) x131000 x131001 x131002 x131003 x131004 x131005 x131006 x131007 x131008 x131009 x131010 x131011 x131012 x131013 x131014 x131015 x131016 x131017 x131018 x131019 x131020 x131021 x131022 x131023 x131024 x131025 x131026 x131027 x131028 x131029 x131030 x131031 x131032 x131033 x131034 x131035 x131036 x131037 x131038 x131039 x131040 x131041 x131042 x131043 x131044 x131045) else (none)) else (culetref16_Positions.l0 k x0 x1 x7 (wrap64 (x8 + 1)) x131000 x131001 x131002 x131003 x131004 x131005 x131006 x131007 x131008 x131009 x131010 x131011 x131012 x131013 x131014 x131015 x131016 x131017 x131018 x131019 x131020 x131021 x131022 x131023 x131024 x131025 x131026 x131027 x131028 x131029 x131030 x131031 x131032 x131033 x131034 x131035 x131036 x131037 x131038 x131039 x131040 x131041 x131042 x131043 x131044 x131045))
end
def culetref16_Positions.f (k : Nat) (a0 : Int) (a1 : Bool) (a2_0 : ByteArray) (a2_1 : Int) (a2_2 : Int) (l2_3 : List Int) (a2_4 : Int) (a2_5 : Bool) (a2_6 : ByteArray) (a2_7 : Bool) (a2_8 : ByteArray) (a2_9 : Bool) (a2_10 : ByteArray) (a2_11 : Bool) (a2_12 : ByteArray) (a2_13 : Bool) (a2_14 : ByteArray) (a2_15 : Bool) (a2_16 : ByteArray) (a2_17 : Bool) (a2_18 : ByteArray) (a2_19 : Bool) (a2_20 : ByteArray) (a2_21 : Bool) (a2_22 : ByteArray) (a2_23 : Bool) (a2_24 : ByteArray) (a2_25 : Bool) (a2_26 : ByteArray) (a2_27 : Bool) (a2_28 : ByteArray) (a2_29 : Bool) (a2_30 : ByteArray) (a2_31 : Bool) (a2_32 : ByteArray) (a2_33 : Bool) (a2_34 : ByteArray) (a2_35 : Bool) (a2_36 : ByteArray) (a2_37 : Bool) (a2_38 : ByteArray) (a2_39 : Bool) (a2_40 : ByteArray) (a2_41 : Bool) (a2_42 : ByteArray) (a2_43 : Bool) (a2_44 : ByteArray) (l2_45 : List (S64)) : Option (List Int) := (culetref16_divides.f a0).bind fun t131 => (if t131 = true then (if a2_1 = 0 then (some (([0] : List Int))) else (culetref16_Positions.l0 k a0 a1 ([] : List Int) 0 a2_0 a2_1 a2_2 l2_3 a2_4 a2_5 a2_6 a2_7 a2_8 a2_9 a2_10 a2_11 a2_12 a2_13 a2_14 a2_15 a2_16 a2_17 a2_18 a2_19 a2_20 a2_21 a2_22 a2_23 a2_24 a2_25 a2_26 a2_27 a2_28 a2_29 a2_30 a2_31 a2_32 a2_33 a2_34 a2_35 a2_36 a2_37 a2_38 a2_39 a2_40 a2_41 a2_42 a2_43 a2_44 l2_45)) else (some ([] : List Int)))
theorem culetref16_Positions.mono_l : ∀ k, (∀ y0 y1 y2 y3 y4 y5 y6 y7 y8 y9 y10 y11 y12 y13 y14 y15 y16 y17 y18 y19 y20 y21 y22 y23 y24 y25 y26 y27 y28 y29 y30 y31 y32 y33 y34 y35 y36 y37 y38 y39 y40 y41 y42 y43 y44 y45 y46 y47 y48 y49, LeO (culetref16_Positions.l0 k y0 y1 y2 y3 y4 y5 y6 y7 y8 y9 y10 y11 y12 y13 y14 y15 y16 y17 y18 y19 y20 y21 y22 y23 y24 y25 y26 y27 y28 y29 y30 y31 y32 y33 y34 y35 y36 y37 y38 y39 y40 y41 y42 y43 y44 y45 y46 y47 y48 y49) (culetref16_Positions.l0 (k + 1) y0 y1 y2 y3 y4 y5 y6 y7 y8 y9 y10 y11 y12 y13 y14 y15 y16 y17 y18 y19 y20 y21 y22 y23 y24 y25 y26 y27 y28 y29 y30 y31 y32 y33 y34 y35 y36 y37 y38 y39 y40 y41 y42 y43 y44 y45 y46 y47 y48 y49)) ∧ (∀ y0 y1 y2 y3 y4 y5 y6 y7 y8 y9 y10 y11 y12 y13 y14 y15 y16 y17 y18 y19 y20 y21 y22 y23 y24 y25 y26 y27 y28 y29 y30 y31 y32 y33 y34 y35 y36 y37 y38 y39 y40 y41 y42 y43 y44 y45 y46 y47 y48 y49 y50 y51, LeO (culetref16_Positions.l1 k y0 y1 y2 y3 y4 y5 y6 y7 y8 y9 y10 y11 y12 y13 y14 y15 y16 y17 y18 y19 y20 y21 y22 y23 y24 y25 y26 y27 y28 y29 y30 y31 y32 y33 y34 y35 y36 y37 y38 y39 y40 y41 y42 y43 y44 y45 y46 y47 y48 y49 y50 y51) (culetref16_Positions.l1 (k + 1) y0 y1 y2 y3 y4 y5 y6 y7 y8 y9 y10 y11 y12 y13 y14 y15 y16 y17 y18 y19 y20 y21 y22 y23 y24 y25 y26 y27 y28 y29 y30 y31 y32 y33 y34 y35 y36 y37 y38 y39 y40 y41 y42 y43 y44 y45 y46 y47 y48 y49 y50 y51)) ∧ (∀ y0 y1 y2 y3 y4 y5 y6 y7 y8 y9 y10 y11 y12 y13 y14 y15 y16 y17 y18 y19 y20 y21 y22 y23 y24 y25 y26 y27 y28 y29 y30 y31 y32 y33 y34 y35 y36 y37 y38 y39 y40 y41 y42 y43 y44 y45 y46 y47 y48 y49 y50 y51 y52, LeO (culetref16_Positions.j2 k y0 y1 y2 y3 y4 y5 y6 y7 y8 y9 y10 y11 y12 y13 y14 y15 y16 y17 y18 y19 y20 y21 y22 y23 y24 y25 y26 y27 y28 y29 y30 y31 y32 y33 y34 y35 y36 y37 y38 y39 y40 y41 y42 y43 y44 y45 y46 y47 y48 y49 y50 y51 y52) (culetref16_Positions.j2 (k + 1) y0 y1 y2 y3 y4 y5 y6 y7 y8 y9 y10 y11 y12 y13 y14 y15 y16 y17 y18 y19 y20 y21 y22 y23 y24 y25 y26 y27 y28 y29 y30 y31 y32 y33 y34 y35 y36 y37 y38 y39 y40 y41 y42 y43 y44 y45 y46 y47 y48 y49 y50 y51 y52))
  | 0 => ⟨fun _ _ _ _ _ _ _ _ _ _ _ _ _ _ _ _ _ _ _ _ _ _ _ _ _ _ _ _ _ _ _ _ _ _ _ _ _ _ _ _ _ _ _ _ _ _ _ _ _ _ r h => by simp [culetref16_Positions.l0] at h, fun _ _ _ _ _ _ _ _ _ _ _ _ _ _ _ _ _ _ _ _ _ _ _ _ _ _ _ _ _ _ _ _ _ _ _ _ _ _ _ _ _ _ _ _ _ _ _ _ _ _ _ _ r h => by simp [culetref16_Positions.l1] at h, fun _ _ _ _ _ _ _ _ _ _ _ _ _ _ _ _ _ _ _ _ _ _ _ _ _ _ _ _ _ _ _ _ _ _ _ _ _ _ _ _ _ _ _ _ _ _ _ _ _ _ _ _ _ r h => by simp [culetref16_Positions.j2] at h⟩
  | k + 1 => by
    obtain ⟨ih0, ih1, ih2⟩ := culetref16_Positions.mono_l k
    refine ⟨?_, ?_, ?_⟩
    · intro y0 y1 y2 y3 y4 y5 y6 y7 y8 y9 y10 y11 y12 y13 y14 y15 y16 y17 y18 y19 y20 y21 y22 y23 y24 y25 y26 y27 y28 y29 y30 y31 y32 y33 y34 y35 y36 y37 y38 y39 y40 y41 y42 y43 y44 y45 y46 y47 y48 y49
      unfold culetref16_Positions.l0
      repeat' first
      | (with_reducible exact ih0 _ _ _ _ _ _ _ _ _ _ _ _ _ _ _ _ _ _ _ _ _ _ _ _ _ _ _ _ _ _ _ _ _ _ _ _ _ _ _ _ _ _ _ _ _ _ _ _ _ _)
      | (with_reducible exact ih1 _ _ _ _ _ _ _ _ _ _ _ _ _ _ _ _ _ _ _ _ _ _ _ _ _ _ _ _ _ _ _ _ _ _ _ _ _ _ _ _ _ _ _ _ _ _ _ _ _ _ _ _)
      | (with_reducible exact ih2 _ _ _ _ _ _ _ _ _ _ _ _ _ _ _ _ _ _ _ _ _ _ _ _ _ _ _ _ _ _ _ _ _ _ _ _ _ _ _ _ _ _ _ _ _ _ _ _ _ _ _ _ _)
      | (with_reducible exact culetref16_Has.mono _ _ _)
      | (with_reducible exact culetref16_Orbit.mono _ _ _ _)
      | (with_reducible exact LeO.refl _)
      | (with_reducible exact LeO.none _)
      | (with_reducible refine LeO.ite ?_ ?_)
      | (with_reducible refine LeO.bind ?_ (fun _ => ?_))
      | exact ih0 _ _ _ _ _ _ _ _ _ _ _ _ _ _ _ _ _ _ _ _ _ _ _ _ _ _ _ _ _ _ _ _ _ _ _ _ _ _ _ _ _ _ _ _ _ _ _ _ _ _
      | exact ih1 _ _ _ _ _ _ _ _ _ _ _ _ _ _ _ _ _ _ _ _ _ _ _ _ _ _ _ _ _ _ _ _ _ _ _ _ _ _ _ _ _ _ _ _ _ _ _ _ _ _ _ _
      | exact ih2 _ _ _ _ _ _ _ _ _ _ _ _ _ _ _ _ _ _ _ _ _ _ _ _ _ _ _ _ _ _ _ _ _ _ _ _ _ _ _ _ _ _ _ _ _ _ _ _ _ _ _ _ _
      | exact culetref16_Has.mono _ _ _
      | exact culetref16_Orbit.mono _ _ _ _
      | exact LeO.none _
      | refine LeO.ite ?_ ?_
      | refine LeO.bind ?_ (fun _ => ?_)
    · intro y0 y1 y2 y3 y4 y5 y6 y7 y8 y9 y10 y11 y12 y13 y14 y15 y16 y17 y18 y19 y20 y21 y22 y23 y24 y25 y26 y27 y28 y29 y30 y31 y32 y33 y34 y35 y36 y37 y38 y39 y40 y41 y42 y43 y44 y45 y46 y47 y48 y49 y50 y51
      unfold culetref16_Positions.l1
      repeat' first
      | (with_reducible exact ih0 _ _ _ _ _ _ _ _ _ _ _ _ _ _ _ _ _ _ _ _ _ _ _ _ _ _ _ _ _ _ _ _ _ _ _ _ _ _ _ _ _ _ _ _ _ _ _ _ _ _)
      | (with_reducible exact ih1 _ _ _ _ _ _ _ _ _ _ _ _ _ _ _ _ _ _ _ _ _ _ _ _ _ _ _ _ _ _ _ _ _ _ _ _ _ _ _ _ _ _ _ _ _ _ _ _ _ _ _ _)
      | (with_reducible exact ih2 _ _ _ _ _ _ _ _ _ _ _ _ _ _ _ _ _ _ _ _ _ _ _ _ _ _ _ _ _ _ _ _ _ _ _ _ _ _ _ _ _ _ _ _ _ _ _ _ _ _ _ _ _)
      | (with_reducible exact culetref16_Has.mono _ _ _)
      | (with_reducible exact culetref16_Orbit.mono _ _ _ _)
      | (with_reducible exact LeO.refl _)
      | (with_reducible exact LeO.none _)
      | (with_reducible refine LeO.ite ?_ ?_)
      | (with_reducible refine LeO.bind ?_ (fun _ => ?_))
      | exact ih0 _ _ _ _ _ _ _ _ _ _ _ _ _ _ _ _ _ _ _ _ _ _ _ _ _ _ _ _ _ _ _ _ _ _ _ _ _ _ _ _ _ _ _ _ _ _ _ _ _ _
      | exact ih1 _ _ _ _ _ _ _ _ _ _ _ _ _ _ _ _ _ _ _ _ _ _ _ _ _ _ _ _ _ _ _ _ _ _ _ _ _ _ _ _ _ _ _ _ _ _ _ _ _ _ _ _
      | exact ih2 _ _ _ _ _ _ _ _ _ _ _ _ _ _ _ _ _ _ _ _ _ _ _ _ _ _ _ _ _ _ _ _ _ _ _ _ _ _ _ _ _ _ _ _ _ _ _ _ _ _ _ _ _
      | exact culetref16_Has.mono _ _ _
      | exact culetref16_Orbit.mono _ _ _ _
      | exact LeO.none _
      | refine LeO.ite ?_ ?_
      | refine LeO.bind ?_ (fun _ => ?_)
    · intro y0 y1 y2 y3 y4 y5 y6 y7 y8 y9 y10 y11 y12 y13 y14 y15 y16 y17 y18 y19 y20 y21 y22 y23 y24 y25 y26 y27 y28 y29 y30 y31 y32 y33 y34 y35 y36 y37 y38 y39 y40 y41 y42 y43 y44 y45 y46 y47 y48 y49 y50 y51 y52
      unfold culetref16_Positions.j2
      repeat' first
      | (with_reducible exact ih0 _ _ _ _ _ _ _ _ _ _ _ _ _ _ _ _ _ _ _ _ _ _ _ _ _ _ _ _ _ _ _ _ _ _ _ _ _ _ _ _ _ _ _ _ _ _ _ _ _ _)
      | (with_reducible exact ih1 _ _ _ _ _ _ _ _ _ _ _ _ _ _ _ _ _ _ _ _ _ _ _ _ _ _ _ _ _ _ _ _ _ _ _ _ _ _ _ _ _ _ _ _ _ _ _ _ _ _ _ _)
      | (with_reducible exact ih2 _ _ _ _ _ _ _ _ _ _ _ _ _ _ _ _ _ _ _ _ _ _ _ _ _ _ _ _ _ _ _ _ _ _ _ _ _ _ _ _ _ _ _ _ _ _ _ _ _ _ _ _ _)
      | (with_reducible exact culetref16_Has.mono _ _ _)
      | (with_reducible exact culetref16_Orbit.mono _ _ _ _)
      | (with_reducible exact LeO.refl _)
      | (with_reducible exact LeO.none _)
      | (with_reducible refine LeO.ite ?_ ?_)
      | (with_reducible refine LeO.bind ?_ (fun _ => ?_))
      | exact ih0 _ _ _ _ _ _ _ _ _ _ _ _ _ _ _ _ _ _ _ _ _ _ _ _ _ _ _ _ _ _ _ _ _ _ _ _ _ _ _ _ _ _ _ _ _ _ _ _ _ _
      | exact ih1 _ _ _ _ _ _ _ _ _ _ _ _ _ _ _ _ _ _ _ _ _ _ _ _ _ _ _ _ _ _ _ _ _ _ _ _ _ _ _ _ _ _ _ _ _ _ _ _ _ _ _ _
      | exact ih2 _ _ _ _ _ _ _ _ _ _ _ _ _ _ _ _ _ _ _ _ _ _ _ _ _ _ _ _ _ _ _ _ _ _ _ _ _ _ _ _ _ _ _ _ _ _ _ _ _ _ _ _ _
      | exact culetref16_Has.mono _ _ _
      | exact culetref16_Orbit.mono _ _ _ _
      | exact LeO.none _
      | refine LeO.ite ?_ ?_
      | refine LeO.bind ?_ (fun _ => ?_)
theorem culetref16_Positions.mono : ∀ a0 a1 a2 a3 a4 a5 a6 a7 a8 a9 a10 a11 a12 a13 a14 a15 a16 a17 a18 a19 a20 a21 a22 a23 a24 a25 a26 a27 a28 a29 a30 a31 a32 a33 a34 a35 a36 a37 a38 a39 a40 a41 a42 a43 a44 a45 a46 a47 k, LeO (culetref16_Positions.f k a0 a1 a2 a3 a4 a5 a6 a7 a8 a9 a10 a11 a12 a13 a14 a15 a16 a17 a18 a19 a20 a21 a22 a23 a24 a25 a26 a27 a28 a29 a30 a31 a32 a33 a34 a35 a36 a37 a38 a39 a40 a41 a42 a43 a44 a45 a46 a47) (culetref16_Positions.f (k + 1) a0 a1 a2 a3 a4 a5 a6 a7 a8 a9 a10 a11 a12 a13 a14 a15 a16 a17 a18 a19 a20 a21 a22 a23 a24 a25 a26 a27 a28 a29 a30 a31 a32 a33 a34 a35 a36 a37 a38 a39 a40 a41 a42 a43 a44 a45 a46 a47) := by
  intro a0 a1 a2 a3 a4 a5 a6 a7 a8 a9 a10 a11 a12 a13 a14 a15 a16 a17 a18 a19 a20 a21 a22 a23 a24 a25 a26 a27 a28 a29 a30 a31 a32 a33 a34 a35 a36 a37 a38 a39 a40 a41 a42 a43 a44 a45 a46 a47 k
  obtain ⟨ih0, ih1, ih2⟩ := culetref16_Positions.mono_l k
  unfold culetref16_Positions.f
  repeat' first
      | (with_reducible exact ih0 _ _ _ _ _ _ _ _ _ _ _ _ _ _ _ _ _ _ _ _ _ _ _ _ _ _ _ _ _ _ _ _ _ _ _ _ _ _ _ _ _ _ _ _ _ _ _ _ _ _)
      | (with_reducible exact ih1 _ _ _ _ _ _ _ _ _ _ _ _ _ _ _ _ _ _ _ _ _ _ _ _ _ _ _ _ _ _ _ _ _ _ _ _ _ _ _ _ _ _ _ _ _ _ _ _ _ _ _ _)
      | (with_reducible exact ih2 _ _ _ _ _ _ _ _ _ _ _ _ _ _ _ _ _ _ _ _ _ _ _ _ _ _ _ _ _ _ _ _ _ _ _ _ _ _ _ _ _ _ _ _ _ _ _ _ _ _ _ _ _)
      | (with_reducible exact culetref16_Has.mono _ _ _)
      | (with_reducible exact culetref16_Orbit.mono _ _ _ _)
      | (with_reducible exact LeO.refl _)
      | (with_reducible exact LeO.none _)
      | (with_reducible refine LeO.ite ?_ ?_)
      | (with_reducible refine LeO.bind ?_ (fun _ => ?_))
      | exact ih0 _ _ _ _ _ _ _ _ _ _ _ _ _ _ _ _ _ _ _ _ _ _ _ _ _ _ _ _ _ _ _ _ _ _ _ _ _ _ _ _ _ _ _ _ _ _ _ _ _ _
      | exact ih1 _ _ _ _ _ _ _ _ _ _ _ _ _ _ _ _ _ _ _ _ _ _ _ _ _ _ _ _ _ _ _ _ _ _ _ _ _ _ _ _ _ _ _ _ _ _ _ _ _ _ _ _
      | exact ih2 _ _ _ _ _ _ _ _ _ _ _ _ _ _ _ _ _ _ _ _ _ _ _ _ _ _ _ _ _ _ _ _ _ _ _ _ _ _ _ _ _ _ _ _ _ _ _ _ _ _ _ _ _
      | exact culetref16_Has.mono _ _ _
      | exact culetref16_Orbit.mono _ _ _ _
      | exact LeO.none _
      | refine LeO.ite ?_ ?_
      | refine LeO.bind ?_ (fun _ => ?_)
set_option maxHeartbeats 8000000 in
set_option maxRecDepth 100000 in
theorem culetref16_Positions.calls (k : Nat) (a0 : Int) (a1 : Bool) (a2_0 : ByteArray) (a2_1 : Int) (a2_2 : Int) (A2_3 : Option Addr) (c2_3 : Nat) (l2_3 : List Int) (a2_4 : Int) (a2_5 : Bool) (a2_6 : ByteArray) (a2_7 : Bool) (a2_8 : ByteArray) (a2_9 : Bool) (a2_10 : ByteArray) (a2_11 : Bool) (a2_12 : ByteArray) (a2_13 : Bool) (a2_14 : ByteArray) (a2_15 : Bool) (a2_16 : ByteArray) (a2_17 : Bool) (a2_18 : ByteArray) (a2_19 : Bool) (a2_20 : ByteArray) (a2_21 : Bool) (a2_22 : ByteArray) (a2_23 : Bool) (a2_24 : ByteArray) (a2_25 : Bool) (a2_26 : ByteArray) (a2_27 : Bool) (a2_28 : ByteArray) (a2_29 : Bool) (a2_30 : ByteArray) (a2_31 : Bool) (a2_32 : ByteArray) (a2_33 : Bool) (a2_34 : ByteArray) (a2_35 : Bool) (a2_36 : ByteArray) (a2_37 : Bool) (a2_38 : ByteArray) (a2_39 : Bool) (a2_40 : ByteArray) (a2_41 : Bool) (a2_42 : ByteArray) (a2_43 : Bool) (a2_44 : ByteArray) (A2_45 : Option Addr) (c2_45 : Nat) (l2_45 : List (S64)) (r : List Int) (w : World) (hr2_3 : Kd.C (Kd.int .i64) w A2_3 l2_3.length l2_3) (hc2_3 : l2_3.length ≤ c2_3) (hr2_45 : Kd.C k64 w A2_45 l2_45.length l2_45) (hc2_45 : l2_45.length ≤ c2_45) (h : culetref16_Positions.f k a0 a1 a2_0 a2_1 a2_2 l2_3 a2_4 a2_5 a2_6 a2_7 a2_8 a2_9 a2_10 a2_11 a2_12 a2_13 a2_14 a2_15 a2_16 a2_17 a2_18 a2_19 a2_20 a2_21 a2_22 a2_23 a2_24 a2_25 a2_26 a2_27 a2_28 a2_29 a2_30 a2_31 a2_32 a2_33 a2_34 a2_35 a2_36 a2_37 a2_38 a2_39 a2_40 a2_41 a2_42 a2_43 a2_44 l2_45 = some r) :
    Calls Try.prog 22 #[.int .i64 a0, .bool a1, .agg #[.string a2_0, .int .i64 a2_1, .int .i64 a2_2, .slice A2_3 l2_3.length c2_3, .int .i64 a2_4, .bool a2_5, .string a2_6, .bool a2_7, .string a2_8, .bool a2_9, .string a2_10, .bool a2_11, .string a2_12, .bool a2_13, .string a2_14, .bool a2_15, .string a2_16, .bool a2_17, .string a2_18, .bool a2_19, .string a2_20, .bool a2_21, .string a2_22, .bool a2_23, .string a2_24, .bool a2_25, .string a2_26, .bool a2_27, .string a2_28, .bool a2_29, .string a2_30, .bool a2_31, .string a2_32, .bool a2_33, .string a2_34, .bool a2_35, .string a2_36, .bool a2_37, .string a2_38, .bool a2_39, .string a2_40, .bool a2_41, .string a2_42, .bool a2_43, .string a2_44, .slice A2_45 l2_45.length c2_45]] w fun e w' => ∃ v0_ : Value, e = .returned (v0_) ∧ Kd.R (Kd.int .i64) 3 w' w.heap.size (fun _ => True) v0_ r ∧ Below w.heap.size w w' := by
  have hu51 := Try.underlying51
  have HR2_3 := Aside0.mk hr2_3
  have HC2_3 := Aside0.mk hc2_3
  clear hr2_3 hc2_3
  have HR2_45 := Aside0.mk hr2_45
  have HC2_45 := Aside0.mk hc2_45
  clear hr2_45 hc2_45
  have HB := Aside0.mk (Below.refl w.heap.size w)
  have H : ((culetref16_divides.f a0).bind fun t131 => (if t131 = true then (if a2_1 = 0 then (some (([0] : List Int))) else (culetref16_Positions.l0 k a0 a1 ([] : List Int) 0 a2_0 a2_1 a2_2 l2_3 a2_4 a2_5 a2_6 a2_7 a2_8 a2_9 a2_10 a2_11 a2_12 a2_13 a2_14 a2_15 a2_16 a2_17 a2_18 a2_19 a2_20 a2_21 a2_22 a2_23 a2_24 a2_25 a2_26 a2_27 a2_28 a2_29 a2_30 a2_31 a2_32 a2_33 a2_34 a2_35 a2_36 a2_37 a2_38 a2_39 a2_40 a2_41 a2_42 a2_43 a2_44 l2_45)) else (some ([] : List Int)))) = some r := h
  clear h
  replace H := Option.bind_eq_some_iff.mp H
  obtain ⟨t131, A40, H⟩ := H
  replace H : (if t131 = true then (if a2_1 = 0 then (some (([0] : List Int))) else (culetref16_Positions.l0 k a0 a1 ([] : List Int) 0 a2_0 a2_1 a2_2 l2_3 a2_4 a2_5 a2_6 a2_7 a2_8 a2_9 a2_10 a2_11 a2_12 a2_13 a2_14 a2_15 a2_16 a2_17 a2_18 a2_19 a2_20 a2_21 a2_22 a2_23 a2_24 a2_25 a2_26 a2_27 a2_28 a2_29 a2_30 a2_31 a2_32 a2_33 a2_34 a2_35 a2_36 a2_37 a2_38 a2_39 a2_40 a2_41 a2_42 a2_43 a2_44 l2_45)) else (some ([] : List Int))) = some r := H
  have A4 := Aside0.mk A40
  clear A40
  by_cases c5 : t131 = true
  · subst c5
    have H1 : (if a2_1 = 0 then (some (([0] : List Int))) else (culetref16_Positions.l0 k a0 a1 ([] : List Int) 0 a2_0 a2_1 a2_2 l2_3 a2_4 a2_5 a2_6 a2_7 a2_8 a2_9 a2_10 a2_11 a2_12 a2_13 a2_14 a2_15 a2_16 a2_17 a2_18 a2_19 a2_20 a2_21 a2_22 a2_23 a2_24 a2_25 a2_26 a2_27 a2_28 a2_29 a2_30 a2_31 a2_32 a2_33 a2_34 a2_35 a2_36 a2_37 a2_38 a2_39 a2_40 a2_41 a2_42 a2_43 a2_44 l2_45)) = some r := by rw [if_pos rfl] at H; exact H
    clear H
    have H := H1
    clear H1
    by_cases c6 : a2_1 = 0
    · rw [if_pos c6] at H
      have c6b0 : (a2_1 == 0) = true := beq_iff_eq.mpr c6
      have c6b1 : (a2_1 != 0) = false := bne_eq_false_iff_eq.mpr c6
      clear c6
      obtain ⟨y132, hy132⟩ : ∃ y_ : List Int, y_ = (([0] : List Int)) := ⟨_, rfl⟩
      replace H : (some y132) = some r := by first | (rw [hy132]; with_reducible exact H) | (have H2_ := (Option.bind_some _ _).symm.trans H; rw [hy132]; with_reducible exact H2_) | (have H2_ := (Option.bind_some _ _).symm.trans H; with_reducible exact H2_) | with_reducible exact H | (rw [hy132]; exact H) | exact H
      have Ny132 := Aside0.mk hy132
      clear hy132
      obtain rfl := Option.some.inj H
      go_enter Try.func22, Try.ntmps22
      go_wp2_with (first | ((with_reducible refine gate_dst (N := 5) rfl ?_); refine box_event ?hg (N := 5) ?hd (cs := #[.string a2_0, .int .i64 a2_1, .int .i64 a2_2, .slice A2_3 l2_3.length c2_3, .int .i64 a2_4, .bool a2_5, .string a2_6, .bool a2_7, .string a2_8, .bool a2_9, .string a2_10, .bool a2_11, .string a2_12, .bool a2_13, .string a2_14, .bool a2_15, .string a2_16, .bool a2_17, .string a2_18, .bool a2_19, .string a2_20, .bool a2_21, .string a2_22, .bool a2_23, .string a2_24, .bool a2_25, .string a2_26, .bool a2_27, .string a2_28, .bool a2_29, .string a2_30, .bool a2_31, .string a2_32, .bool a2_33, .string a2_34, .bool a2_35, .string a2_36, .bool a2_37, .string a2_38, .bool a2_39, .string a2_40, .bool a2_41, .string a2_42, .bool a2_43, .string a2_44, .slice A2_45 l2_45.length c2_45]) (t := 51) ?hr ?_; (case hd => rfl); (case hg => rfl); (case hr => first | (go_simp; done) | (go_simp; rfl)); intro gb130 hg w7 hbox hb; have n0_ := Aside0.mk (below_step (by repeat (first | (with_reducible first | exact HB.out | apply below_alloc | apply pw_below_drewN | apply below_drew1) | exact HB.out)) hb); have n1_ := Aside0.mk (hbox); have n2_ := Aside0.mk ((by rw [hg]; exact (below_size (by repeat (first | (with_reducible first | exact HB.out | apply below_alloc | apply pw_below_drewN | apply below_drew1) | exact HB.out))) : w.heap.size ≤ gb130)); have n3_ := Aside0.mk ((by rw [hg]; exact (below_size (by repeat (first | (with_reducible first | exact HB.out | apply below_alloc | apply pw_below_drewN | apply below_drew1) | exact HB.out))) : w.heap.size ≤ gb130)); clear HB; have HB := n0_; have BK130 := n1_; have GW130 := n2_; have GE130 := n3_; clear n0_ n1_ n2_ n3_; clear hb hbox hg) | ((with_reducible refine gate_callee (f := 57) rfl ?_); refine goesL_ (some 12) rfl rfl Try.func57 (by kernel_rfl) rfl #[.int .i64 a0] rfl (by (try simp only [List.map_toArray, List.map_cons, List.map_nil]); first | done | rfl | (simp only [List.length_drop, List.length_take]; rfl)) ?_; (with_reducible refine (culetref16_divides.calls a0 true _ A4.out).mono ?_); rintro e w' ⟨rfl, ⟨nd, rfl⟩⟩; refine ⟨_, rfl, ?_⟩; have hcz8_0 : w7.cell? ⟨gb130, 0, none⟩ = some (.string a2_0) := (blk_cell BK130.out 0).trans rfl; have hcz8_1 : w7.cell? ⟨gb130, 1, none⟩ = some (.int .i64 a2_1) := (blk_cell BK130.out 1).trans rfl; have hcz8_2 : w7.cell? ⟨gb130, 2, none⟩ = some (.int .i64 a2_2) := (blk_cell BK130.out 2).trans rfl; have hcz8_3 : w7.cell? ⟨gb130, 3, none⟩ = some (.slice A2_3 l2_3.length c2_3) := (blk_cell BK130.out 3).trans rfl; have hcz8_4 : w7.cell? ⟨gb130, 4, none⟩ = some (.int .i64 a2_4) := (blk_cell BK130.out 4).trans rfl; have hcz8_5 : w7.cell? ⟨gb130, 5, none⟩ = some (.bool a2_5) := (blk_cell BK130.out 5).trans rfl; have hcz8_6 : w7.cell? ⟨gb130, 6, none⟩ = some (.string a2_6) := (blk_cell BK130.out 6).trans rfl; have hcz8_7 : w7.cell? ⟨gb130, 7, none⟩ = some (.bool a2_7) := (blk_cell BK130.out 7).trans rfl; have hcz8_8 : w7.cell? ⟨gb130, 8, none⟩ = some (.string a2_8) := (blk_cell BK130.out 8).trans rfl; have hcz8_9 : w7.cell? ⟨gb130, 9, none⟩ = some (.bool a2_9) := (blk_cell BK130.out 9).trans rfl; have hcz8_10 : w7.cell? ⟨gb130, 10, none⟩ = some (.string a2_10) := (blk_cell BK130.out 10).trans rfl; have hcz8_11 : w7.cell? ⟨gb130, 11, none⟩ = some (.bool a2_11) := (blk_cell BK130.out 11).trans rfl; have hcz8_12 : w7.cell? ⟨gb130, 12, none⟩ = some (.string a2_12) := (blk_cell BK130.out 12).trans rfl; have hcz8_13 : w7.cell? ⟨gb130, 13, none⟩ = some (.bool a2_13) := (blk_cell BK130.out 13).trans rfl; have hcz8_14 : w7.cell? ⟨gb130, 14, none⟩ = some (.string a2_14) := (blk_cell BK130.out 14).trans rfl; have hcz8_15 : w7.cell? ⟨gb130, 15, none⟩ = some (.bool a2_15) := (blk_cell BK130.out 15).trans rfl; have hcz8_16 : w7.cell? ⟨gb130, 16, none⟩ = some (.string a2_16) := (blk_cell BK130.out 16).trans rfl; have hcz8_17 : w7.cell? ⟨gb130, 17, none⟩ = some (.bool a2_17) := (blk_cell BK130.out 17).trans rfl; have hcz8_18 : w7.cell? ⟨gb130, 18, none⟩ = some (.string a2_18) := (blk_cell BK130.out 18).trans rfl; have hcz8_19 : w7.cell? ⟨gb130, 19, none⟩ = some (.bool a2_19) := (blk_cell BK130.out 19).trans rfl; have hcz8_20 : w7.cell? ⟨gb130, 20, none⟩ = some (.string a2_20) := (blk_cell BK130.out 20).trans rfl; have hcz8_21 : w7.cell? ⟨gb130, 21, none⟩ = some (.bool a2_21) := (blk_cell BK130.out 21).trans rfl; have hcz8_22 : w7.cell? ⟨gb130, 22, none⟩ = some (.string a2_22) := (blk_cell BK130.out 22).trans rfl; have hcz8_23 : w7.cell? ⟨gb130, 23, none⟩ = some (.bool a2_23) := (blk_cell BK130.out 23).trans rfl; have hcz8_24 : w7.cell? ⟨gb130, 24, none⟩ = some (.string a2_24) := (blk_cell BK130.out 24).trans rfl; have hcz8_25 : w7.cell? ⟨gb130, 25, none⟩ = some (.bool a2_25) := (blk_cell BK130.out 25).trans rfl; have hcz8_26 : w7.cell? ⟨gb130, 26, none⟩ = some (.string a2_26) := (blk_cell BK130.out 26).trans rfl; have hcz8_27 : w7.cell? ⟨gb130, 27, none⟩ = some (.bool a2_27) := (blk_cell BK130.out 27).trans rfl; have hcz8_28 : w7.cell? ⟨gb130, 28, none⟩ = some (.string a2_28) := (blk_cell BK130.out 28).trans rfl; have hcz8_29 : w7.cell? ⟨gb130, 29, none⟩ = some (.bool a2_29) := (blk_cell BK130.out 29).trans rfl; have hcz8_30 : w7.cell? ⟨gb130, 30, none⟩ = some (.string a2_30) := (blk_cell BK130.out 30).trans rfl; have hcz8_31 : w7.cell? ⟨gb130, 31, none⟩ = some (.bool a2_31) := (blk_cell BK130.out 31).trans rfl; have hcz8_32 : w7.cell? ⟨gb130, 32, none⟩ = some (.string a2_32) := (blk_cell BK130.out 32).trans rfl; have hcz8_33 : w7.cell? ⟨gb130, 33, none⟩ = some (.bool a2_33) := (blk_cell BK130.out 33).trans rfl; have hcz8_34 : w7.cell? ⟨gb130, 34, none⟩ = some (.string a2_34) := (blk_cell BK130.out 34).trans rfl; have hcz8_35 : w7.cell? ⟨gb130, 35, none⟩ = some (.bool a2_35) := (blk_cell BK130.out 35).trans rfl; have hcz8_36 : w7.cell? ⟨gb130, 36, none⟩ = some (.string a2_36) := (blk_cell BK130.out 36).trans rfl; have hcz8_37 : w7.cell? ⟨gb130, 37, none⟩ = some (.bool a2_37) := (blk_cell BK130.out 37).trans rfl; have hcz8_38 : w7.cell? ⟨gb130, 38, none⟩ = some (.string a2_38) := (blk_cell BK130.out 38).trans rfl; have hcz8_39 : w7.cell? ⟨gb130, 39, none⟩ = some (.bool a2_39) := (blk_cell BK130.out 39).trans rfl; have hcz8_40 : w7.cell? ⟨gb130, 40, none⟩ = some (.string a2_40) := (blk_cell BK130.out 40).trans rfl; have hcz8_41 : w7.cell? ⟨gb130, 41, none⟩ = some (.bool a2_41) := (blk_cell BK130.out 41).trans rfl; have hcz8_42 : w7.cell? ⟨gb130, 42, none⟩ = some (.string a2_42) := (blk_cell BK130.out 42).trans rfl; have hcz8_43 : w7.cell? ⟨gb130, 43, none⟩ = some (.bool a2_43) := (blk_cell BK130.out 43).trans rfl; have hcz8_44 : w7.cell? ⟨gb130, 44, none⟩ = some (.string a2_44) := (blk_cell BK130.out 44).trans rfl; have hcz8_45 : w7.cell? ⟨gb130, 45, none⟩ = some (.slice A2_45 l2_45.length c2_45) := (blk_cell BK130.out 45).trans rfl; have hfz8_0 := blk_frozen BK130.out 0; have hfz8_1 := blk_frozen BK130.out 1; have hfz8_2 := blk_frozen BK130.out 2; have hfz8_3 := blk_frozen BK130.out 3; have hfz8_4 := blk_frozen BK130.out 4; have hfz8_5 := blk_frozen BK130.out 5; have hfz8_6 := blk_frozen BK130.out 6; have hfz8_7 := blk_frozen BK130.out 7; have hfz8_8 := blk_frozen BK130.out 8; have hfz8_9 := blk_frozen BK130.out 9; have hfz8_10 := blk_frozen BK130.out 10; have hfz8_11 := blk_frozen BK130.out 11; have hfz8_12 := blk_frozen BK130.out 12; have hfz8_13 := blk_frozen BK130.out 13; have hfz8_14 := blk_frozen BK130.out 14; have hfz8_15 := blk_frozen BK130.out 15; have hfz8_16 := blk_frozen BK130.out 16; have hfz8_17 := blk_frozen BK130.out 17; have hfz8_18 := blk_frozen BK130.out 18; have hfz8_19 := blk_frozen BK130.out 19; have hfz8_20 := blk_frozen BK130.out 20; have hfz8_21 := blk_frozen BK130.out 21; have hfz8_22 := blk_frozen BK130.out 22; have hfz8_23 := blk_frozen BK130.out 23; have hfz8_24 := blk_frozen BK130.out 24; have hfz8_25 := blk_frozen BK130.out 25; have hfz8_26 := blk_frozen BK130.out 26; have hfz8_27 := blk_frozen BK130.out 27; have hfz8_28 := blk_frozen BK130.out 28; have hfz8_29 := blk_frozen BK130.out 29; have hfz8_30 := blk_frozen BK130.out 30; have hfz8_31 := blk_frozen BK130.out 31; have hfz8_32 := blk_frozen BK130.out 32; have hfz8_33 := blk_frozen BK130.out 33; have hfz8_34 := blk_frozen BK130.out 34; have hfz8_35 := blk_frozen BK130.out 35; have hfz8_36 := blk_frozen BK130.out 36; have hfz8_37 := blk_frozen BK130.out 37; have hfz8_38 := blk_frozen BK130.out 38; have hfz8_39 := blk_frozen BK130.out 39; have hfz8_40 := blk_frozen BK130.out 40; have hfz8_41 := blk_frozen BK130.out 41; have hfz8_42 := blk_frozen BK130.out 42; have hfz8_43 := blk_frozen BK130.out 43; have hfz8_44 := blk_frozen BK130.out 44; have hfz8_45 := blk_frozen BK130.out 45) | ((with_reducible refine gate_dst (N := 17) rfl ?_); refine Kd.R_lit (Kd.int .i64) _ 3 ?hg (N := 17) ?hd (xs := ([0] : List Int)) (inner := [.int .i64 0]) (ok := fun _ => True) (okp := fun _ => True) ?hr ?hp (fun _ hk => hk) trivial (Below.refl _ _) (Nat.le_refl _) (by simp) ?_; (case hd => rfl); (case hg => rfl); (case hr => first | (go_simp; done) | (go_simp; rfl)); (case hp => exact (Reps.one (show Kd.M (Kd.int .i64) _ _ _ 0 [.int .i64 0] from rfl) (Reps.none _ _))); intro v133 w9 ho10 hb hg_ hnew_; clear hg_ hnew_; (first | rw [← Ny132.out] at ho10 | (simp only [Int.reduceToNat] at ho10; rw [← Ny132.out] at ho10)); have n0_ := Aside0.mk (Kd.R_lower ho10 (below_size (by repeat (first | (with_reducible first | exact HB.out | apply below_alloc | apply pw_below_drewN | apply below_drew1 | refine below_set ?_ GE130.out) | exact HB.out)))); have n1_ := Aside0.mk (blk_below (g := gb130) (o := .cells #[.string a2_0, .int .i64 a2_1, .int .i64 a2_2, .slice A2_3 l2_3.length c2_3, .int .i64 a2_4, .bool a2_5, .string a2_6, .bool a2_7, .string a2_8, .bool a2_9, .string a2_10, .bool a2_11, .string a2_12, .bool a2_13, .string a2_14, .bool a2_15, .string a2_16, .bool a2_17, .string a2_18, .bool a2_19, .string a2_20, .bool a2_21, .string a2_22, .bool a2_23, .string a2_24, .bool a2_25, .string a2_26, .bool a2_27, .string a2_28, .bool a2_29, .string a2_30, .bool a2_31, .string a2_32, .bool a2_33, .string a2_34, .bool a2_35, .string a2_36, .bool a2_37, .string a2_38, .bool a2_39, .string a2_40, .bool a2_41, .string a2_42, .bool a2_43, .string a2_44, .slice A2_45 l2_45.length c2_45] 51 (0, 0)) (by (with_reducible repeat (first | refine blk_drewN ?_ _ | refine blk_drew ?_ | refine blk_alloc ?_ _)); exact BK130.out) hb); have n2_ := Aside0.mk (below_step (by repeat (first | (with_reducible first | exact HB.out | apply below_alloc | apply pw_below_drewN | apply below_drew1 | refine below_set ?_ GE130.out) | exact HB.out)) hb); clear BK130; clear HB; have HO134 := n0_; have BK130 := n1_; have HB := n2_; clear n0_ n1_ n2_; clear hb ho10))
      go_ret
      exact ⟨_, by first | rfl | (simp [errW_none, errW_some] <;> rfl) | (simp [*, errW_none, errW_some] <;> rfl), by (with_reducible repeat (first | apply Kd.R_alloc | apply Kd.R_drewN | apply Kd.R_drew)); exact HO134.out, by repeat (first | (with_reducible first | exact HB.out | apply below_alloc | apply pw_below_drewN | apply below_drew1 | refine below_set ?_ GE130.out) | exact HB.out)⟩
    · rw [if_neg c6] at H
      have c6b0 : (a2_1 == 0) = false := beq_eq_false_iff_ne.mpr c6
      have c6b1 : (a2_1 != 0) = true := bne_iff_ne.mpr c6
      have H' := Aside0.mk H
      clear H
      go_enter Try.func22, Try.ntmps22
      go_wp2_with (first | ((with_reducible refine gate_dst (N := 5) rfl ?_); refine box_event ?hg (N := 5) ?hd (cs := #[.string a2_0, .int .i64 a2_1, .int .i64 a2_2, .slice A2_3 l2_3.length c2_3, .int .i64 a2_4, .bool a2_5, .string a2_6, .bool a2_7, .string a2_8, .bool a2_9, .string a2_10, .bool a2_11, .string a2_12, .bool a2_13, .string a2_14, .bool a2_15, .string a2_16, .bool a2_17, .string a2_18, .bool a2_19, .string a2_20, .bool a2_21, .string a2_22, .bool a2_23, .string a2_24, .bool a2_25, .string a2_26, .bool a2_27, .string a2_28, .bool a2_29, .string a2_30, .bool a2_31, .string a2_32, .bool a2_33, .string a2_34, .bool a2_35, .string a2_36, .bool a2_37, .string a2_38, .bool a2_39, .string a2_40, .bool a2_41, .string a2_42, .bool a2_43, .string a2_44, .slice A2_45 l2_45.length c2_45]) (t := 51) ?hr ?_; (case hd => rfl); (case hg => rfl); (case hr => first | (go_simp; done) | (go_simp; rfl)); intro gb130 hg w11 hbox hb; have n0_ := Aside0.mk (below_step (by repeat (first | (with_reducible first | exact HB.out | apply below_alloc | apply pw_below_drewN | apply below_drew1) | exact HB.out)) hb); have n1_ := Aside0.mk (hbox); have n2_ := Aside0.mk ((by rw [hg]; exact (below_size (by repeat (first | (with_reducible first | exact HB.out | apply below_alloc | apply pw_below_drewN | apply below_drew1) | exact HB.out))) : w.heap.size ≤ gb130)); have n3_ := Aside0.mk ((by rw [hg]; exact (below_size (by repeat (first | (with_reducible first | exact HB.out | apply below_alloc | apply pw_below_drewN | apply below_drew1) | exact HB.out))) : w.heap.size ≤ gb130)); clear HB; have HB := n0_; have BK130 := n1_; have GW130 := n2_; have GE130 := n3_; clear n0_ n1_ n2_ n3_; clear hb hbox hg) | ((with_reducible refine gate_callee (f := 57) rfl ?_); refine goesL_ (some 12) rfl rfl Try.func57 (by kernel_rfl) rfl #[.int .i64 a0] rfl (by (try simp only [List.map_toArray, List.map_cons, List.map_nil]); first | done | rfl | (simp only [List.length_drop, List.length_take]; rfl)) ?_; (with_reducible refine (culetref16_divides.calls a0 true _ A4.out).mono ?_); rintro e w' ⟨rfl, ⟨nd, rfl⟩⟩; refine ⟨_, rfl, ?_⟩; have hcz12_0 : w11.cell? ⟨gb130, 0, none⟩ = some (.string a2_0) := (blk_cell BK130.out 0).trans rfl; have hcz12_1 : w11.cell? ⟨gb130, 1, none⟩ = some (.int .i64 a2_1) := (blk_cell BK130.out 1).trans rfl; have hcz12_2 : w11.cell? ⟨gb130, 2, none⟩ = some (.int .i64 a2_2) := (blk_cell BK130.out 2).trans rfl; have hcz12_3 : w11.cell? ⟨gb130, 3, none⟩ = some (.slice A2_3 l2_3.length c2_3) := (blk_cell BK130.out 3).trans rfl; have hcz12_4 : w11.cell? ⟨gb130, 4, none⟩ = some (.int .i64 a2_4) := (blk_cell BK130.out 4).trans rfl; have hcz12_5 : w11.cell? ⟨gb130, 5, none⟩ = some (.bool a2_5) := (blk_cell BK130.out 5).trans rfl; have hcz12_6 : w11.cell? ⟨gb130, 6, none⟩ = some (.string a2_6) := (blk_cell BK130.out 6).trans rfl; have hcz12_7 : w11.cell? ⟨gb130, 7, none⟩ = some (.bool a2_7) := (blk_cell BK130.out 7).trans rfl; have hcz12_8 : w11.cell? ⟨gb130, 8, none⟩ = some (.string a2_8) := (blk_cell BK130.out 8).trans rfl; have hcz12_9 : w11.cell? ⟨gb130, 9, none⟩ = some (.bool a2_9) := (blk_cell BK130.out 9).trans rfl; have hcz12_10 : w11.cell? ⟨gb130, 10, none⟩ = some (.string a2_10) := (blk_cell BK130.out 10).trans rfl; have hcz12_11 : w11.cell? ⟨gb130, 11, none⟩ = some (.bool a2_11) := (blk_cell BK130.out 11).trans rfl; have hcz12_12 : w11.cell? ⟨gb130, 12, none⟩ = some (.string a2_12) := (blk_cell BK130.out 12).trans rfl; have hcz12_13 : w11.cell? ⟨gb130, 13, none⟩ = some (.bool a2_13) := (blk_cell BK130.out 13).trans rfl; have hcz12_14 : w11.cell? ⟨gb130, 14, none⟩ = some (.string a2_14) := (blk_cell BK130.out 14).trans rfl; have hcz12_15 : w11.cell? ⟨gb130, 15, none⟩ = some (.bool a2_15) := (blk_cell BK130.out 15).trans rfl; have hcz12_16 : w11.cell? ⟨gb130, 16, none⟩ = some (.string a2_16) := (blk_cell BK130.out 16).trans rfl; have hcz12_17 : w11.cell? ⟨gb130, 17, none⟩ = some (.bool a2_17) := (blk_cell BK130.out 17).trans rfl; have hcz12_18 : w11.cell? ⟨gb130, 18, none⟩ = some (.string a2_18) := (blk_cell BK130.out 18).trans rfl; have hcz12_19 : w11.cell? ⟨gb130, 19, none⟩ = some (.bool a2_19) := (blk_cell BK130.out 19).trans rfl; have hcz12_20 : w11.cell? ⟨gb130, 20, none⟩ = some (.string a2_20) := (blk_cell BK130.out 20).trans rfl; have hcz12_21 : w11.cell? ⟨gb130, 21, none⟩ = some (.bool a2_21) := (blk_cell BK130.out 21).trans rfl; have hcz12_22 : w11.cell? ⟨gb130, 22, none⟩ = some (.string a2_22) := (blk_cell BK130.out 22).trans rfl; have hcz12_23 : w11.cell? ⟨gb130, 23, none⟩ = some (.bool a2_23) := (blk_cell BK130.out 23).trans rfl; have hcz12_24 : w11.cell? ⟨gb130, 24, none⟩ = some (.string a2_24) := (blk_cell BK130.out 24).trans rfl; have hcz12_25 : w11.cell? ⟨gb130, 25, none⟩ = some (.bool a2_25) := (blk_cell BK130.out 25).trans rfl; have hcz12_26 : w11.cell? ⟨gb130, 26, none⟩ = some (.string a2_26) := (blk_cell BK130.out 26).trans rfl; have hcz12_27 : w11.cell? ⟨gb130, 27, none⟩ = some (.bool a2_27) := (blk_cell BK130.out 27).trans rfl; have hcz12_28 : w11.cell? ⟨gb130, 28, none⟩ = some (.string a2_28) := (blk_cell BK130.out 28).trans rfl; have hcz12_29 : w11.cell? ⟨gb130, 29, none⟩ = some (.bool a2_29) := (blk_cell BK130.out 29).trans rfl; have hcz12_30 : w11.cell? ⟨gb130, 30, none⟩ = some (.string a2_30) := (blk_cell BK130.out 30).trans rfl; have hcz12_31 : w11.cell? ⟨gb130, 31, none⟩ = some (.bool a2_31) := (blk_cell BK130.out 31).trans rfl; have hcz12_32 : w11.cell? ⟨gb130, 32, none⟩ = some (.string a2_32) := (blk_cell BK130.out 32).trans rfl; have hcz12_33 : w11.cell? ⟨gb130, 33, none⟩ = some (.bool a2_33) := (blk_cell BK130.out 33).trans rfl; have hcz12_34 : w11.cell? ⟨gb130, 34, none⟩ = some (.string a2_34) := (blk_cell BK130.out 34).trans rfl; have hcz12_35 : w11.cell? ⟨gb130, 35, none⟩ = some (.bool a2_35) := (blk_cell BK130.out 35).trans rfl; have hcz12_36 : w11.cell? ⟨gb130, 36, none⟩ = some (.string a2_36) := (blk_cell BK130.out 36).trans rfl; have hcz12_37 : w11.cell? ⟨gb130, 37, none⟩ = some (.bool a2_37) := (blk_cell BK130.out 37).trans rfl; have hcz12_38 : w11.cell? ⟨gb130, 38, none⟩ = some (.string a2_38) := (blk_cell BK130.out 38).trans rfl; have hcz12_39 : w11.cell? ⟨gb130, 39, none⟩ = some (.bool a2_39) := (blk_cell BK130.out 39).trans rfl; have hcz12_40 : w11.cell? ⟨gb130, 40, none⟩ = some (.string a2_40) := (blk_cell BK130.out 40).trans rfl; have hcz12_41 : w11.cell? ⟨gb130, 41, none⟩ = some (.bool a2_41) := (blk_cell BK130.out 41).trans rfl; have hcz12_42 : w11.cell? ⟨gb130, 42, none⟩ = some (.string a2_42) := (blk_cell BK130.out 42).trans rfl; have hcz12_43 : w11.cell? ⟨gb130, 43, none⟩ = some (.bool a2_43) := (blk_cell BK130.out 43).trans rfl; have hcz12_44 : w11.cell? ⟨gb130, 44, none⟩ = some (.string a2_44) := (blk_cell BK130.out 44).trans rfl; have hcz12_45 : w11.cell? ⟨gb130, 45, none⟩ = some (.slice A2_45 l2_45.length c2_45) := (blk_cell BK130.out 45).trans rfl; have hfz12_0 := blk_frozen BK130.out 0; have hfz12_1 := blk_frozen BK130.out 1; have hfz12_2 := blk_frozen BK130.out 2; have hfz12_3 := blk_frozen BK130.out 3; have hfz12_4 := blk_frozen BK130.out 4; have hfz12_5 := blk_frozen BK130.out 5; have hfz12_6 := blk_frozen BK130.out 6; have hfz12_7 := blk_frozen BK130.out 7; have hfz12_8 := blk_frozen BK130.out 8; have hfz12_9 := blk_frozen BK130.out 9; have hfz12_10 := blk_frozen BK130.out 10; have hfz12_11 := blk_frozen BK130.out 11; have hfz12_12 := blk_frozen BK130.out 12; have hfz12_13 := blk_frozen BK130.out 13; have hfz12_14 := blk_frozen BK130.out 14; have hfz12_15 := blk_frozen BK130.out 15; have hfz12_16 := blk_frozen BK130.out 16; have hfz12_17 := blk_frozen BK130.out 17; have hfz12_18 := blk_frozen BK130.out 18; have hfz12_19 := blk_frozen BK130.out 19; have hfz12_20 := blk_frozen BK130.out 20; have hfz12_21 := blk_frozen BK130.out 21; have hfz12_22 := blk_frozen BK130.out 22; have hfz12_23 := blk_frozen BK130.out 23; have hfz12_24 := blk_frozen BK130.out 24; have hfz12_25 := blk_frozen BK130.out 25; have hfz12_26 := blk_frozen BK130.out 26; have hfz12_27 := blk_frozen BK130.out 27; have hfz12_28 := blk_frozen BK130.out 28; have hfz12_29 := blk_frozen BK130.out 29; have hfz12_30 := blk_frozen BK130.out 30; have hfz12_31 := blk_frozen BK130.out 31; have hfz12_32 := blk_frozen BK130.out 32; have hfz12_33 := blk_frozen BK130.out 33; have hfz12_34 := blk_frozen BK130.out 34; have hfz12_35 := blk_frozen BK130.out 35; have hfz12_36 := blk_frozen BK130.out 36; have hfz12_37 := blk_frozen BK130.out 37; have hfz12_38 := blk_frozen BK130.out 38; have hfz12_39 := blk_frozen BK130.out 39; have hfz12_40 := blk_frozen BK130.out 40; have hfz12_41 := blk_frozen BK130.out 41; have hfz12_42 := blk_frozen BK130.out 42; have hfz12_43 := blk_frozen BK130.out 43; have hfz12_44 := blk_frozen BK130.out 44; have hfz12_45 := blk_frozen BK130.out 45))
      go_loopg [7, 8] k (fun kq v7 v8 w' => ∃ (x7_1 : List Int) (x8_1 : Int), v8 = .int .i64 x8_1 ∧ Aside0 (culetref16_Positions.l0 kq a0 a1 x7_1 x8_1 a2_0 a2_1 a2_2 l2_3 a2_4 a2_5 a2_6 a2_7 a2_8 a2_9 a2_10 a2_11 a2_12 a2_13 a2_14 a2_15 a2_16 a2_17 a2_18 a2_19 a2_20 a2_21 a2_22 a2_23 a2_24 a2_25 a2_26 a2_27 a2_28 a2_29 a2_30 a2_31 a2_32 a2_33 a2_34 a2_35 a2_36 a2_37 a2_38 a2_39 a2_40 a2_41 a2_42 a2_43 a2_44 l2_45 = some r) ∧ Aside0 (kq ≤ k) ∧ Aside0 (Kd.R (Kd.int .i64) 3 w' w.heap.size (fun _ => True) v7 x7_1) ∧ Aside0 (w'.heap[gb130]? = some (.cells #[.string a2_0, .int .i64 a2_1, .int .i64 a2_2, (.slice A2_3 l2_3.length c2_3), .int .i64 a2_4, .bool a2_5, .string a2_6, .bool a2_7, .string a2_8, .bool a2_9, .string a2_10, .bool a2_11, .string a2_12, .bool a2_13, .string a2_14, .bool a2_15, .string a2_16, .bool a2_17, .string a2_18, .bool a2_19, .string a2_20, .bool a2_21, .string a2_22, .bool a2_23, .string a2_24, .bool a2_25, .string a2_26, .bool a2_27, .string a2_28, .bool a2_29, .string a2_30, .bool a2_31, .string a2_32, .bool a2_33, .string a2_34, .bool a2_35, .string a2_36, .bool a2_37, .string a2_38, .bool a2_39, .string a2_40, .bool a2_41, .string a2_42, .bool a2_43, .string a2_44, (.slice A2_45 l2_45.length c2_45)] 51 (0, 0))) ∧ Aside0 (Below w.heap.size w w'))
      case atStart => exact ⟨(([] : List Int)), (0), (by first | rfl | (simp; done) | (simp [*]; done)), H', ⟨Nat.le_refl _⟩, ⟨by first | exact Kd.R_nil _ _ _ _ _ | exact Kd.N_nil _ _ _ _ _ | exact Kd.V_nil _ _ _ _ _ | exact Kd.Q_nil _ _ _ _ _ | exact Kd.S_nil _ _ _ _ _⟩, ⟨by (with_reducible repeat (first | refine blk_drewN ?_ _ | refine blk_drew ?_ | refine blk_alloc ?_ _)); exact BK130.out⟩, ⟨by repeat (first | (with_reducible first | exact HB.out | apply below_alloc | apply pw_below_drewN | apply below_drew1 | refine below_set ?_ GE130.out) | exact HB.out)⟩⟩
      case round =>
        clear H'
        try clear c2
        try clear p2
        try clear c5
        try clear c6
        try clear c6b0
        try clear c6b1
        try clear hcz12_0
        try clear hcz12_1
        try clear hcz12_10
        try clear hcz12_11
        try clear hcz12_12
        try clear hcz12_13
        try clear hcz12_14
        try clear hcz12_15
        try clear hcz12_16
        try clear hcz12_17
        try clear hcz12_18
        try clear hcz12_19
        try clear hcz12_2
        try clear hcz12_20
        try clear hcz12_21
        try clear hcz12_22
        try clear hcz12_23
        try clear hcz12_24
        try clear hcz12_25
        try clear hcz12_26
        try clear hcz12_27
        try clear hcz12_28
        try clear hcz12_29
        try clear hcz12_3
        try clear hcz12_30
        try clear hcz12_31
        try clear hcz12_32
        try clear hcz12_33
        try clear hcz12_34
        try clear hcz12_35
        try clear hcz12_36
        try clear hcz12_37
        try clear hcz12_38
        try clear hcz12_39
        try clear hcz12_4
        try clear hcz12_40
        try clear hcz12_41
        try clear hcz12_42
        try clear hcz12_43
        try clear hcz12_44
        try clear hcz12_45
        try clear hcz12_5
        try clear hcz12_6
        try clear hcz12_7
        try clear hcz12_8
        try clear hcz12_9
        try clear hcz8_0
        try clear hcz8_1
        try clear hcz8_10
        try clear hcz8_11
        try clear hcz8_12
        try clear hcz8_13
        try clear hcz8_14
        try clear hcz8_15
        try clear hcz8_16
        try clear hcz8_17
        try clear hcz8_18
        try clear hcz8_19
        try clear hcz8_2
        try clear hcz8_20
        try clear hcz8_21
        try clear hcz8_22
        try clear hcz8_23
        try clear hcz8_24
        try clear hcz8_25
        try clear hcz8_26
        try clear hcz8_27
        try clear hcz8_28
        try clear hcz8_29
        try clear hcz8_3
        try clear hcz8_30
        try clear hcz8_31
        try clear hcz8_32
        try clear hcz8_33
        try clear hcz8_34
        try clear hcz8_35
        try clear hcz8_36
        try clear hcz8_37
        try clear hcz8_38
        try clear hcz8_39
        try clear hcz8_4
        try clear hcz8_40
        try clear hcz8_41
        try clear hcz8_42
        try clear hcz8_43
        try clear hcz8_44
        try clear hcz8_45
        try clear hcz8_5
        try clear hcz8_6
        try clear hcz8_7
        try clear hcz8_8
        try clear hcz8_9
        try clear hfz12_0
        try clear hfz12_1
        try clear hfz12_10
        try clear hfz12_11
        try clear hfz12_12
        try clear hfz12_13
        try clear hfz12_14
        try clear hfz12_15
        try clear hfz12_16
        try clear hfz12_17
        try clear hfz12_18
        try clear hfz12_19
        try clear hfz12_2
        try clear hfz12_20
        try clear hfz12_21
        try clear hfz12_22
        try clear hfz12_23
        try clear hfz12_24
        try clear hfz12_25
        try clear hfz12_26
        try clear hfz12_27
        try clear hfz12_28
        try clear hfz12_29
        try clear hfz12_3
        try clear hfz12_30
        try clear hfz12_31
        try clear hfz12_32
        try clear hfz12_33
        try clear hfz12_34
        try clear hfz12_35
        try clear hfz12_36
        try clear hfz12_37
        try clear hfz12_38
        try clear hfz12_39
        try clear hfz12_4
        try clear hfz12_40
        try clear hfz12_41
        try clear hfz12_42
        try clear hfz12_43
        try clear hfz12_44
        try clear hfz12_45
        try clear hfz12_5
        try clear hfz12_6
        try clear hfz12_7
        try clear hfz12_8
        try clear hfz12_9
        try clear hfz8_0
        try clear hfz8_1
        try clear hfz8_10
        try clear hfz8_11
        try clear hfz8_12
        try clear hfz8_13
        try clear hfz8_14
        try clear hfz8_15
        try clear hfz8_16
        try clear hfz8_17
        try clear hfz8_18
        try clear hfz8_19
        try clear hfz8_2
        try clear hfz8_20
        try clear hfz8_21
        try clear hfz8_22
        try clear hfz8_23
        try clear hfz8_24
        try clear hfz8_25
        try clear hfz8_26
        try clear hfz8_27
        try clear hfz8_28
        try clear hfz8_29
        try clear hfz8_3
        try clear hfz8_30
        try clear hfz8_31
        try clear hfz8_32
        try clear hfz8_33
        try clear hfz8_34
        try clear hfz8_35
        try clear hfz8_36
        try clear hfz8_37
        try clear hfz8_38
        try clear hfz8_39
        try clear hfz8_4
        try clear hfz8_40
        try clear hfz8_41
        try clear hfz8_42
        try clear hfz8_43
        try clear hfz8_44
        try clear hfz8_45
        try clear hfz8_5
        try clear hfz8_6
        try clear hfz8_7
        try clear hfz8_8
        try clear hfz8_9
        obtain ⟨x7_1, x8_1, rfl, HA, HK1, HO_7, BK130, HB⟩ := hrel
        cases gk with
        | zero => exact absurd HA.out (by simp [culetref16_Positions.l0])
        | succ k1 =>
          have H := HA.out
          clear HA
          simp only [culetref16_Positions.l0] at H
          by_cases c13 : x8_1 < 24
          · rw [if_pos c13] at H
            have c13b0 : decide (x8_1 < 24) = true := decide_eq_true c13
            clear c13
            have H' := Aside0.mk H
            clear H
            go_wp2
            go_loopg [9, 10] k1 (fun kq v9 v10 w' => ∃ (x9_2 : Bool) (x10_2 : Int), v9 = .bool x9_2 ∧ v10 = .int .i64 x10_2 ∧ Aside0 (culetref16_Positions.l1 kq a0 a1 x7_1 x8_1 x9_2 x10_2 a2_0 a2_1 a2_2 l2_3 a2_4 a2_5 a2_6 a2_7 a2_8 a2_9 a2_10 a2_11 a2_12 a2_13 a2_14 a2_15 a2_16 a2_17 a2_18 a2_19 a2_20 a2_21 a2_22 a2_23 a2_24 a2_25 a2_26 a2_27 a2_28 a2_29 a2_30 a2_31 a2_32 a2_33 a2_34 a2_35 a2_36 a2_37 a2_38 a2_39 a2_40 a2_41 a2_42 a2_43 a2_44 l2_45 = some r) ∧ Aside0 (kq ≤ k1) ∧ Aside0 (Kd.R (Kd.int .i64) 3 w' w.heap.size (fun _ => True) u7 x7_1) ∧ Aside0 (w'.heap[gb130]? = some (.cells #[.string a2_0, .int .i64 a2_1, .int .i64 a2_2, (.slice A2_3 l2_3.length c2_3), .int .i64 a2_4, .bool a2_5, .string a2_6, .bool a2_7, .string a2_8, .bool a2_9, .string a2_10, .bool a2_11, .string a2_12, .bool a2_13, .string a2_14, .bool a2_15, .string a2_16, .bool a2_17, .string a2_18, .bool a2_19, .string a2_20, .bool a2_21, .string a2_22, .bool a2_23, .string a2_24, .bool a2_25, .string a2_26, .bool a2_27, .string a2_28, .bool a2_29, .string a2_30, .bool a2_31, .string a2_32, .bool a2_33, .string a2_34, .bool a2_35, .string a2_36, .bool a2_37, .string a2_38, .bool a2_39, .string a2_40, .bool a2_41, .string a2_42, .bool a2_43, .string a2_44, (.slice A2_45 l2_45.length c2_45)] 51 (0, 0))) ∧ Aside0 (Below w.heap.size w w'))
            case atStart => exact ⟨(false), (0), (by first | rfl | (simp; done) | (simp [*]; done)), (by first | rfl | (simp; done) | (simp [*]; done)), H', ⟨Nat.le_refl _⟩, ⟨by (with_reducible repeat (first | apply Kd.R_alloc | apply Kd.R_drewN | apply Kd.R_drew)); exact HO_7.out⟩, ⟨by (with_reducible repeat (first | refine blk_drewN ?_ _ | refine blk_drew ?_ | refine blk_alloc ?_ _)); exact BK130.out⟩, ⟨by repeat (first | (with_reducible first | exact HB.out | apply below_alloc | apply pw_below_drewN | apply below_drew1 | refine below_set ?_ GE130.out) | exact HB.out)⟩⟩
            case round =>
              clear H'
              try clear c1
              try clear c2
              try clear p2
              try clear c5
              try clear c6
              try clear c6b0
              try clear c6b1
              try clear c13
              try clear c13b0
              try clear hcz12_0
              try clear hcz12_1
              try clear hcz12_10
              try clear hcz12_11
              try clear hcz12_12
              try clear hcz12_13
              try clear hcz12_14
              try clear hcz12_15
              try clear hcz12_16
              try clear hcz12_17
              try clear hcz12_18
              try clear hcz12_19
              try clear hcz12_2
              try clear hcz12_20
              try clear hcz12_21
              try clear hcz12_22
              try clear hcz12_23
              try clear hcz12_24
              try clear hcz12_25
              try clear hcz12_26
              try clear hcz12_27
              try clear hcz12_28
              try clear hcz12_29
              try clear hcz12_3
              try clear hcz12_30
              try clear hcz12_31
              try clear hcz12_32
              try clear hcz12_33
              try clear hcz12_34
              try clear hcz12_35
              try clear hcz12_36
              try clear hcz12_37
              try clear hcz12_38
              try clear hcz12_39
              try clear hcz12_4
              try clear hcz12_40
              try clear hcz12_41
              try clear hcz12_42
              try clear hcz12_43
              try clear hcz12_44
              try clear hcz12_45
              try clear hcz12_5
              try clear hcz12_6
              try clear hcz12_7
              try clear hcz12_8
              try clear hcz12_9
              try clear hcz8_0
              try clear hcz8_1
              try clear hcz8_10
              try clear hcz8_11
              try clear hcz8_12
              try clear hcz8_13
              try clear hcz8_14
              try clear hcz8_15
              try clear hcz8_16
              try clear hcz8_17
              try clear hcz8_18
              try clear hcz8_19
              try clear hcz8_2
              try clear hcz8_20
              try clear hcz8_21
              try clear hcz8_22
              try clear hcz8_23
              try clear hcz8_24
              try clear hcz8_25
              try clear hcz8_26
              try clear hcz8_27
              try clear hcz8_28
              try clear hcz8_29
              try clear hcz8_3
              try clear hcz8_30
              try clear hcz8_31
              try clear hcz8_32
              try clear hcz8_33
              try clear hcz8_34
              try clear hcz8_35
              try clear hcz8_36
              try clear hcz8_37
              try clear hcz8_38
              try clear hcz8_39
              try clear hcz8_4
              try clear hcz8_40
              try clear hcz8_41
              try clear hcz8_42
              try clear hcz8_43
              try clear hcz8_44
              try clear hcz8_45
              try clear hcz8_5
              try clear hcz8_6
              try clear hcz8_7
              try clear hcz8_8
              try clear hcz8_9
              try clear hfz12_0
              try clear hfz12_1
              try clear hfz12_10
              try clear hfz12_11
              try clear hfz12_12
              try clear hfz12_13
              try clear hfz12_14
              try clear hfz12_15
              try clear hfz12_16
              try clear hfz12_17
              try clear hfz12_18
              try clear hfz12_19
              try clear hfz12_2
              try clear hfz12_20
              try clear hfz12_21
              try clear hfz12_22
              try clear hfz12_23
              try clear hfz12_24
              try clear hfz12_25
              try clear hfz12_26
              try clear hfz12_27
              try clear hfz12_28
              try clear hfz12_29
              try clear hfz12_3
              try clear hfz12_30
              try clear hfz12_31
              try clear hfz12_32
              try clear hfz12_33
              try clear hfz12_34
              try clear hfz12_35
              try clear hfz12_36
              try clear hfz12_37
              try clear hfz12_38
              try clear hfz12_39
              try clear hfz12_4
              try clear hfz12_40
              try clear hfz12_41
              try clear hfz12_42
              try clear hfz12_43
              try clear hfz12_44
              try clear hfz12_45
              try clear hfz12_5
              try clear hfz12_6
              try clear hfz12_7
              try clear hfz12_8
              try clear hfz12_9
              try clear hfz8_0
              try clear hfz8_1
              try clear hfz8_10
              try clear hfz8_11
              try clear hfz8_12
              try clear hfz8_13
              try clear hfz8_14
              try clear hfz8_15
              try clear hfz8_16
              try clear hfz8_17
              try clear hfz8_18
              try clear hfz8_19
              try clear hfz8_2
              try clear hfz8_20
              try clear hfz8_21
              try clear hfz8_22
              try clear hfz8_23
              try clear hfz8_24
              try clear hfz8_25
              try clear hfz8_26
              try clear hfz8_27
              try clear hfz8_28
              try clear hfz8_29
              try clear hfz8_3
              try clear hfz8_30
              try clear hfz8_31
              try clear hfz8_32
              try clear hfz8_33
              try clear hfz8_34
              try clear hfz8_35
              try clear hfz8_36
              try clear hfz8_37
              try clear hfz8_38
              try clear hfz8_39
              try clear hfz8_4
              try clear hfz8_40
              try clear hfz8_41
              try clear hfz8_42
              try clear hfz8_43
              try clear hfz8_44
              try clear hfz8_45
              try clear hfz8_5
              try clear hfz8_6
              try clear hfz8_7
              try clear hfz8_8
              try clear hfz8_9
              try clear p2
              obtain ⟨x9_2, x10_2, rfl, rfl, HA, HK2, HO_7, BK130, HB⟩ := hrel
              cases gk with
              | zero => exact absurd HA.out (by simp [culetref16_Positions.l1])
              | succ k2 =>
                have H := HA.out
                clear HA
                simp only [culetref16_Positions.l1] at H
                have HC14 := Aside0.mk H
                clear H
                go_upto_region 11 with (fail)
                go_cut [30] (fun v30 wc => ∃ (kq : Nat) (x30_13 : Bool), v30 = .bool x30_13 ∧ Aside0 (culetref16_Positions.j2 kq a0 a1 x7_1 x8_1 x9_2 x10_2 x30_13 a2_0 a2_1 a2_2 l2_3 a2_4 a2_5 a2_6 a2_7 a2_8 a2_9 a2_10 a2_11 a2_12 a2_13 a2_14 a2_15 a2_16 a2_17 a2_18 a2_19 a2_20 a2_21 a2_22 a2_23 a2_24 a2_25 a2_26 a2_27 a2_28 a2_29 a2_30 a2_31 a2_32 a2_33 a2_34 a2_35 a2_36 a2_37 a2_38 a2_39 a2_40 a2_41 a2_42 a2_43 a2_44 l2_45 = some r) ∧ Aside0 (kq ≤ k2) ∧ Aside0 (Kd.R (Kd.int .i64) 3 wc w.heap.size (fun _ => True) u7 x7_1) ∧ Aside0 (wc.heap[gb130]? = some (.cells #[.string a2_0, .int .i64 a2_1, .int .i64 a2_2, (.slice A2_3 l2_3.length c2_3), .int .i64 a2_4, .bool a2_5, .string a2_6, .bool a2_7, .string a2_8, .bool a2_9, .string a2_10, .bool a2_11, .string a2_12, .bool a2_13, .string a2_14, .bool a2_15, .string a2_16, .bool a2_17, .string a2_18, .bool a2_19, .string a2_20, .bool a2_21, .string a2_22, .bool a2_23, .string a2_24, .bool a2_25, .string a2_26, .bool a2_27, .string a2_28, .bool a2_29, .string a2_30, .bool a2_31, .string a2_32, .bool a2_33, .string a2_34, .bool a2_35, .string a2_36, .bool a2_37, .string a2_38, .bool a2_39, .string a2_40, .bool a2_41, .string a2_42, .bool a2_43, .string a2_44, (.slice A2_45 l2_45.length c2_45)] 51 (0, 0))) ∧ Aside0 (Below w.heap.size w wc))
                case first =>
                  have H := HC14.out
                  clear HC14
                  by_cases c15 : x10_2 < (l2_3.length : Int)
                  · rw [if_pos c15] at H
                    have c15b0 : decide (x10_2 < (l2_3.length : Int)) = true := decide_eq_true c15
                    clear c15
                    (first | rw [c15b0] | (simp only [i64_w, i32_w]; rw [c15b0]) | skip)
                    have H' := Aside0.mk H
                    clear H
                    have hcz16_0 : wr.cell? ⟨gb130, 0, none⟩ = some (.string a2_0) := (blk_cell BK130.out 0).trans rfl
                    have hcz16_1 : wr.cell? ⟨gb130, 1, none⟩ = some (.int .i64 a2_1) := (blk_cell BK130.out 1).trans rfl
                    have hcz16_2 : wr.cell? ⟨gb130, 2, none⟩ = some (.int .i64 a2_2) := (blk_cell BK130.out 2).trans rfl
                    have hcz16_3 : wr.cell? ⟨gb130, 3, none⟩ = some (.slice A2_3 l2_3.length c2_3) := (blk_cell BK130.out 3).trans rfl
                    have hcz16_4 : wr.cell? ⟨gb130, 4, none⟩ = some (.int .i64 a2_4) := (blk_cell BK130.out 4).trans rfl
                    have hcz16_5 : wr.cell? ⟨gb130, 5, none⟩ = some (.bool a2_5) := (blk_cell BK130.out 5).trans rfl
                    have hcz16_6 : wr.cell? ⟨gb130, 6, none⟩ = some (.string a2_6) := (blk_cell BK130.out 6).trans rfl
                    have hcz16_7 : wr.cell? ⟨gb130, 7, none⟩ = some (.bool a2_7) := (blk_cell BK130.out 7).trans rfl
                    have hcz16_8 : wr.cell? ⟨gb130, 8, none⟩ = some (.string a2_8) := (blk_cell BK130.out 8).trans rfl
                    have hcz16_9 : wr.cell? ⟨gb130, 9, none⟩ = some (.bool a2_9) := (blk_cell BK130.out 9).trans rfl
                    have hcz16_10 : wr.cell? ⟨gb130, 10, none⟩ = some (.string a2_10) := (blk_cell BK130.out 10).trans rfl
                    have hcz16_11 : wr.cell? ⟨gb130, 11, none⟩ = some (.bool a2_11) := (blk_cell BK130.out 11).trans rfl
                    have hcz16_12 : wr.cell? ⟨gb130, 12, none⟩ = some (.string a2_12) := (blk_cell BK130.out 12).trans rfl
                    have hcz16_13 : wr.cell? ⟨gb130, 13, none⟩ = some (.bool a2_13) := (blk_cell BK130.out 13).trans rfl
                    have hcz16_14 : wr.cell? ⟨gb130, 14, none⟩ = some (.string a2_14) := (blk_cell BK130.out 14).trans rfl
                    have hcz16_15 : wr.cell? ⟨gb130, 15, none⟩ = some (.bool a2_15) := (blk_cell BK130.out 15).trans rfl
                    have hcz16_16 : wr.cell? ⟨gb130, 16, none⟩ = some (.string a2_16) := (blk_cell BK130.out 16).trans rfl
                    have hcz16_17 : wr.cell? ⟨gb130, 17, none⟩ = some (.bool a2_17) := (blk_cell BK130.out 17).trans rfl
                    have hcz16_18 : wr.cell? ⟨gb130, 18, none⟩ = some (.string a2_18) := (blk_cell BK130.out 18).trans rfl
                    have hcz16_19 : wr.cell? ⟨gb130, 19, none⟩ = some (.bool a2_19) := (blk_cell BK130.out 19).trans rfl
                    have hcz16_20 : wr.cell? ⟨gb130, 20, none⟩ = some (.string a2_20) := (blk_cell BK130.out 20).trans rfl
                    have hcz16_21 : wr.cell? ⟨gb130, 21, none⟩ = some (.bool a2_21) := (blk_cell BK130.out 21).trans rfl
                    have hcz16_22 : wr.cell? ⟨gb130, 22, none⟩ = some (.string a2_22) := (blk_cell BK130.out 22).trans rfl
                    have hcz16_23 : wr.cell? ⟨gb130, 23, none⟩ = some (.bool a2_23) := (blk_cell BK130.out 23).trans rfl
                    have hcz16_24 : wr.cell? ⟨gb130, 24, none⟩ = some (.string a2_24) := (blk_cell BK130.out 24).trans rfl
                    have hcz16_25 : wr.cell? ⟨gb130, 25, none⟩ = some (.bool a2_25) := (blk_cell BK130.out 25).trans rfl
                    have hcz16_26 : wr.cell? ⟨gb130, 26, none⟩ = some (.string a2_26) := (blk_cell BK130.out 26).trans rfl
                    have hcz16_27 : wr.cell? ⟨gb130, 27, none⟩ = some (.bool a2_27) := (blk_cell BK130.out 27).trans rfl
                    have hcz16_28 : wr.cell? ⟨gb130, 28, none⟩ = some (.string a2_28) := (blk_cell BK130.out 28).trans rfl
                    have hcz16_29 : wr.cell? ⟨gb130, 29, none⟩ = some (.bool a2_29) := (blk_cell BK130.out 29).trans rfl
                    have hcz16_30 : wr.cell? ⟨gb130, 30, none⟩ = some (.string a2_30) := (blk_cell BK130.out 30).trans rfl
                    have hcz16_31 : wr.cell? ⟨gb130, 31, none⟩ = some (.bool a2_31) := (blk_cell BK130.out 31).trans rfl
                    have hcz16_32 : wr.cell? ⟨gb130, 32, none⟩ = some (.string a2_32) := (blk_cell BK130.out 32).trans rfl
                    have hcz16_33 : wr.cell? ⟨gb130, 33, none⟩ = some (.bool a2_33) := (blk_cell BK130.out 33).trans rfl
                    have hcz16_34 : wr.cell? ⟨gb130, 34, none⟩ = some (.string a2_34) := (blk_cell BK130.out 34).trans rfl
                    have hcz16_35 : wr.cell? ⟨gb130, 35, none⟩ = some (.bool a2_35) := (blk_cell BK130.out 35).trans rfl
                    have hcz16_36 : wr.cell? ⟨gb130, 36, none⟩ = some (.string a2_36) := (blk_cell BK130.out 36).trans rfl
                    have hcz16_37 : wr.cell? ⟨gb130, 37, none⟩ = some (.bool a2_37) := (blk_cell BK130.out 37).trans rfl
                    have hcz16_38 : wr.cell? ⟨gb130, 38, none⟩ = some (.string a2_38) := (blk_cell BK130.out 38).trans rfl
                    have hcz16_39 : wr.cell? ⟨gb130, 39, none⟩ = some (.bool a2_39) := (blk_cell BK130.out 39).trans rfl
                    have hcz16_40 : wr.cell? ⟨gb130, 40, none⟩ = some (.string a2_40) := (blk_cell BK130.out 40).trans rfl
                    have hcz16_41 : wr.cell? ⟨gb130, 41, none⟩ = some (.bool a2_41) := (blk_cell BK130.out 41).trans rfl
                    have hcz16_42 : wr.cell? ⟨gb130, 42, none⟩ = some (.string a2_42) := (blk_cell BK130.out 42).trans rfl
                    have hcz16_43 : wr.cell? ⟨gb130, 43, none⟩ = some (.bool a2_43) := (blk_cell BK130.out 43).trans rfl
                    have hcz16_44 : wr.cell? ⟨gb130, 44, none⟩ = some (.string a2_44) := (blk_cell BK130.out 44).trans rfl
                    have hcz16_45 : wr.cell? ⟨gb130, 45, none⟩ = some (.slice A2_45 l2_45.length c2_45) := (blk_cell BK130.out 45).trans rfl
                    have hfz16_0 := blk_frozen BK130.out 0
                    have hfz16_1 := blk_frozen BK130.out 1
                    have hfz16_2 := blk_frozen BK130.out 2
                    have hfz16_3 := blk_frozen BK130.out 3
                    have hfz16_4 := blk_frozen BK130.out 4
                    have hfz16_5 := blk_frozen BK130.out 5
                    have hfz16_6 := blk_frozen BK130.out 6
                    have hfz16_7 := blk_frozen BK130.out 7
                    have hfz16_8 := blk_frozen BK130.out 8
                    have hfz16_9 := blk_frozen BK130.out 9
                    have hfz16_10 := blk_frozen BK130.out 10
                    have hfz16_11 := blk_frozen BK130.out 11
                    have hfz16_12 := blk_frozen BK130.out 12
                    have hfz16_13 := blk_frozen BK130.out 13
                    have hfz16_14 := blk_frozen BK130.out 14
                    have hfz16_15 := blk_frozen BK130.out 15
                    have hfz16_16 := blk_frozen BK130.out 16
                    have hfz16_17 := blk_frozen BK130.out 17
                    have hfz16_18 := blk_frozen BK130.out 18
                    have hfz16_19 := blk_frozen BK130.out 19
                    have hfz16_20 := blk_frozen BK130.out 20
                    have hfz16_21 := blk_frozen BK130.out 21
                    have hfz16_22 := blk_frozen BK130.out 22
                    have hfz16_23 := blk_frozen BK130.out 23
                    have hfz16_24 := blk_frozen BK130.out 24
                    have hfz16_25 := blk_frozen BK130.out 25
                    have hfz16_26 := blk_frozen BK130.out 26
                    have hfz16_27 := blk_frozen BK130.out 27
                    have hfz16_28 := blk_frozen BK130.out 28
                    have hfz16_29 := blk_frozen BK130.out 29
                    have hfz16_30 := blk_frozen BK130.out 30
                    have hfz16_31 := blk_frozen BK130.out 31
                    have hfz16_32 := blk_frozen BK130.out 32
                    have hfz16_33 := blk_frozen BK130.out 33
                    have hfz16_34 := blk_frozen BK130.out 34
                    have hfz16_35 := blk_frozen BK130.out 35
                    have hfz16_36 := blk_frozen BK130.out 36
                    have hfz16_37 := blk_frozen BK130.out 37
                    have hfz16_38 := blk_frozen BK130.out 38
                    have hfz16_39 := blk_frozen BK130.out 39
                    have hfz16_40 := blk_frozen BK130.out 40
                    have hfz16_41 := blk_frozen BK130.out 41
                    have hfz16_42 := blk_frozen BK130.out 42
                    have hfz16_43 := blk_frozen BK130.out 43
                    have hfz16_44 := blk_frozen BK130.out 44
                    have hfz16_45 := blk_frozen BK130.out 45
                    go_wp2
                    go_meet
                    case rel => exact ⟨_, (!x9_2), (by first | rfl | (simp; done) | (simp [*]; done)), H', ⟨by have := HK1.out; have := HK2.out; first | omega | exact Nat.le_refl _⟩, ⟨by (with_reducible repeat (first | apply Kd.R_alloc | apply Kd.R_drewN | apply Kd.R_drew)); exact HO_7.out⟩, ⟨by (with_reducible repeat (first | refine blk_drewN ?_ _ | refine blk_drew ?_ | refine blk_alloc ?_ _)); exact BK130.out⟩, ⟨by repeat (first | (with_reducible first | exact HB.out | apply below_alloc | apply pw_below_drewN | apply below_drew1 | refine below_set ?_ GE130.out) | exact HB.out)⟩⟩
                  · rw [if_neg c15] at H
                    have c15b0 : decide (x10_2 < (l2_3.length : Int)) = false := decide_eq_false c15
                    clear c15
                    (first | rw [c15b0] | (simp only [i64_w, i32_w]; rw [c15b0]) | skip)
                    have H' := Aside0.mk H
                    clear H
                    have hcz17_0 : wr.cell? ⟨gb130, 0, none⟩ = some (.string a2_0) := (blk_cell BK130.out 0).trans rfl
                    have hcz17_1 : wr.cell? ⟨gb130, 1, none⟩ = some (.int .i64 a2_1) := (blk_cell BK130.out 1).trans rfl
                    have hcz17_2 : wr.cell? ⟨gb130, 2, none⟩ = some (.int .i64 a2_2) := (blk_cell BK130.out 2).trans rfl
                    have hcz17_3 : wr.cell? ⟨gb130, 3, none⟩ = some (.slice A2_3 l2_3.length c2_3) := (blk_cell BK130.out 3).trans rfl
                    have hcz17_4 : wr.cell? ⟨gb130, 4, none⟩ = some (.int .i64 a2_4) := (blk_cell BK130.out 4).trans rfl
                    have hcz17_5 : wr.cell? ⟨gb130, 5, none⟩ = some (.bool a2_5) := (blk_cell BK130.out 5).trans rfl
                    have hcz17_6 : wr.cell? ⟨gb130, 6, none⟩ = some (.string a2_6) := (blk_cell BK130.out 6).trans rfl
                    have hcz17_7 : wr.cell? ⟨gb130, 7, none⟩ = some (.bool a2_7) := (blk_cell BK130.out 7).trans rfl
                    have hcz17_8 : wr.cell? ⟨gb130, 8, none⟩ = some (.string a2_8) := (blk_cell BK130.out 8).trans rfl
                    have hcz17_9 : wr.cell? ⟨gb130, 9, none⟩ = some (.bool a2_9) := (blk_cell BK130.out 9).trans rfl
                    have hcz17_10 : wr.cell? ⟨gb130, 10, none⟩ = some (.string a2_10) := (blk_cell BK130.out 10).trans rfl
                    have hcz17_11 : wr.cell? ⟨gb130, 11, none⟩ = some (.bool a2_11) := (blk_cell BK130.out 11).trans rfl
                    have hcz17_12 : wr.cell? ⟨gb130, 12, none⟩ = some (.string a2_12) := (blk_cell BK130.out 12).trans rfl
                    have hcz17_13 : wr.cell? ⟨gb130, 13, none⟩ = some (.bool a2_13) := (blk_cell BK130.out 13).trans rfl
                    have hcz17_14 : wr.cell? ⟨gb130, 14, none⟩ = some (.string a2_14) := (blk_cell BK130.out 14).trans rfl
                    have hcz17_15 : wr.cell? ⟨gb130, 15, none⟩ = some (.bool a2_15) := (blk_cell BK130.out 15).trans rfl
                    have hcz17_16 : wr.cell? ⟨gb130, 16, none⟩ = some (.string a2_16) := (blk_cell BK130.out 16).trans rfl
                    have hcz17_17 : wr.cell? ⟨gb130, 17, none⟩ = some (.bool a2_17) := (blk_cell BK130.out 17).trans rfl
                    have hcz17_18 : wr.cell? ⟨gb130, 18, none⟩ = some (.string a2_18) := (blk_cell BK130.out 18).trans rfl
                    have hcz17_19 : wr.cell? ⟨gb130, 19, none⟩ = some (.bool a2_19) := (blk_cell BK130.out 19).trans rfl
                    have hcz17_20 : wr.cell? ⟨gb130, 20, none⟩ = some (.string a2_20) := (blk_cell BK130.out 20).trans rfl
                    have hcz17_21 : wr.cell? ⟨gb130, 21, none⟩ = some (.bool a2_21) := (blk_cell BK130.out 21).trans rfl
                    have hcz17_22 : wr.cell? ⟨gb130, 22, none⟩ = some (.string a2_22) := (blk_cell BK130.out 22).trans rfl
                    have hcz17_23 : wr.cell? ⟨gb130, 23, none⟩ = some (.bool a2_23) := (blk_cell BK130.out 23).trans rfl
                    have hcz17_24 : wr.cell? ⟨gb130, 24, none⟩ = some (.string a2_24) := (blk_cell BK130.out 24).trans rfl
                    have hcz17_25 : wr.cell? ⟨gb130, 25, none⟩ = some (.bool a2_25) := (blk_cell BK130.out 25).trans rfl
                    have hcz17_26 : wr.cell? ⟨gb130, 26, none⟩ = some (.string a2_26) := (blk_cell BK130.out 26).trans rfl
                    have hcz17_27 : wr.cell? ⟨gb130, 27, none⟩ = some (.bool a2_27) := (blk_cell BK130.out 27).trans rfl
                    have hcz17_28 : wr.cell? ⟨gb130, 28, none⟩ = some (.string a2_28) := (blk_cell BK130.out 28).trans rfl
                    have hcz17_29 : wr.cell? ⟨gb130, 29, none⟩ = some (.bool a2_29) := (blk_cell BK130.out 29).trans rfl
                    have hcz17_30 : wr.cell? ⟨gb130, 30, none⟩ = some (.string a2_30) := (blk_cell BK130.out 30).trans rfl
                    have hcz17_31 : wr.cell? ⟨gb130, 31, none⟩ = some (.bool a2_31) := (blk_cell BK130.out 31).trans rfl
                    have hcz17_32 : wr.cell? ⟨gb130, 32, none⟩ = some (.string a2_32) := (blk_cell BK130.out 32).trans rfl
                    have hcz17_33 : wr.cell? ⟨gb130, 33, none⟩ = some (.bool a2_33) := (blk_cell BK130.out 33).trans rfl
                    have hcz17_34 : wr.cell? ⟨gb130, 34, none⟩ = some (.string a2_34) := (blk_cell BK130.out 34).trans rfl
                    have hcz17_35 : wr.cell? ⟨gb130, 35, none⟩ = some (.bool a2_35) := (blk_cell BK130.out 35).trans rfl
                    have hcz17_36 : wr.cell? ⟨gb130, 36, none⟩ = some (.string a2_36) := (blk_cell BK130.out 36).trans rfl
                    have hcz17_37 : wr.cell? ⟨gb130, 37, none⟩ = some (.bool a2_37) := (blk_cell BK130.out 37).trans rfl
                    have hcz17_38 : wr.cell? ⟨gb130, 38, none⟩ = some (.string a2_38) := (blk_cell BK130.out 38).trans rfl
                    have hcz17_39 : wr.cell? ⟨gb130, 39, none⟩ = some (.bool a2_39) := (blk_cell BK130.out 39).trans rfl
                    have hcz17_40 : wr.cell? ⟨gb130, 40, none⟩ = some (.string a2_40) := (blk_cell BK130.out 40).trans rfl
                    have hcz17_41 : wr.cell? ⟨gb130, 41, none⟩ = some (.bool a2_41) := (blk_cell BK130.out 41).trans rfl
                    have hcz17_42 : wr.cell? ⟨gb130, 42, none⟩ = some (.string a2_42) := (blk_cell BK130.out 42).trans rfl
                    have hcz17_43 : wr.cell? ⟨gb130, 43, none⟩ = some (.bool a2_43) := (blk_cell BK130.out 43).trans rfl
                    have hcz17_44 : wr.cell? ⟨gb130, 44, none⟩ = some (.string a2_44) := (blk_cell BK130.out 44).trans rfl
                    have hcz17_45 : wr.cell? ⟨gb130, 45, none⟩ = some (.slice A2_45 l2_45.length c2_45) := (blk_cell BK130.out 45).trans rfl
                    have hfz17_0 := blk_frozen BK130.out 0
                    have hfz17_1 := blk_frozen BK130.out 1
                    have hfz17_2 := blk_frozen BK130.out 2
                    have hfz17_3 := blk_frozen BK130.out 3
                    have hfz17_4 := blk_frozen BK130.out 4
                    have hfz17_5 := blk_frozen BK130.out 5
                    have hfz17_6 := blk_frozen BK130.out 6
                    have hfz17_7 := blk_frozen BK130.out 7
                    have hfz17_8 := blk_frozen BK130.out 8
                    have hfz17_9 := blk_frozen BK130.out 9
                    have hfz17_10 := blk_frozen BK130.out 10
                    have hfz17_11 := blk_frozen BK130.out 11
                    have hfz17_12 := blk_frozen BK130.out 12
                    have hfz17_13 := blk_frozen BK130.out 13
                    have hfz17_14 := blk_frozen BK130.out 14
                    have hfz17_15 := blk_frozen BK130.out 15
                    have hfz17_16 := blk_frozen BK130.out 16
                    have hfz17_17 := blk_frozen BK130.out 17
                    have hfz17_18 := blk_frozen BK130.out 18
                    have hfz17_19 := blk_frozen BK130.out 19
                    have hfz17_20 := blk_frozen BK130.out 20
                    have hfz17_21 := blk_frozen BK130.out 21
                    have hfz17_22 := blk_frozen BK130.out 22
                    have hfz17_23 := blk_frozen BK130.out 23
                    have hfz17_24 := blk_frozen BK130.out 24
                    have hfz17_25 := blk_frozen BK130.out 25
                    have hfz17_26 := blk_frozen BK130.out 26
                    have hfz17_27 := blk_frozen BK130.out 27
                    have hfz17_28 := blk_frozen BK130.out 28
                    have hfz17_29 := blk_frozen BK130.out 29
                    have hfz17_30 := blk_frozen BK130.out 30
                    have hfz17_31 := blk_frozen BK130.out 31
                    have hfz17_32 := blk_frozen BK130.out 32
                    have hfz17_33 := blk_frozen BK130.out 33
                    have hfz17_34 := blk_frozen BK130.out 34
                    have hfz17_35 := blk_frozen BK130.out 35
                    have hfz17_36 := blk_frozen BK130.out 36
                    have hfz17_37 := blk_frozen BK130.out 37
                    have hfz17_38 := blk_frozen BK130.out 38
                    have hfz17_39 := blk_frozen BK130.out 39
                    have hfz17_40 := blk_frozen BK130.out 40
                    have hfz17_41 := blk_frozen BK130.out 41
                    have hfz17_42 := blk_frozen BK130.out 42
                    have hfz17_43 := blk_frozen BK130.out 43
                    have hfz17_44 := blk_frozen BK130.out 44
                    have hfz17_45 := blk_frozen BK130.out 45
                    go_wp2
                    go_meet
                    case rel => exact ⟨_, (false), (by first | rfl | (simp; done) | (simp [*]; done)), H', ⟨by have := HK1.out; have := HK2.out; first | omega | exact Nat.le_refl _⟩, ⟨by (with_reducible repeat (first | apply Kd.R_alloc | apply Kd.R_drewN | apply Kd.R_drew)); exact HO_7.out⟩, ⟨by (with_reducible repeat (first | refine blk_drewN ?_ _ | refine blk_drew ?_ | refine blk_alloc ?_ _)); exact BK130.out⟩, ⟨by repeat (first | (with_reducible first | exact HB.out | apply below_alloc | apply pw_below_drewN | apply below_drew1 | refine below_set ?_ GE130.out) | exact HB.out)⟩⟩
                case rest =>
                  clear HC14
                  try clear c1
                  try clear c2
                  try clear p2
                  try clear c5
                  try clear c6
                  try clear c6b0
                  try clear c6b1
                  try clear c13
                  try clear c13b0
                  try clear c15
                  try clear c15b0
                  try clear hcz12_0
                  try clear hcz12_1
                  try clear hcz12_10
                  try clear hcz12_11
                  try clear hcz12_12
                  try clear hcz12_13
                  try clear hcz12_14
                  try clear hcz12_15
                  try clear hcz12_16
                  try clear hcz12_17
                  try clear hcz12_18
                  try clear hcz12_19
                  try clear hcz12_2
                  try clear hcz12_20
                  try clear hcz12_21
                  try clear hcz12_22
                  try clear hcz12_23
                  try clear hcz12_24
                  try clear hcz12_25
                  try clear hcz12_26
                  try clear hcz12_27
                  try clear hcz12_28
                  try clear hcz12_29
                  try clear hcz12_3
                  try clear hcz12_30
                  try clear hcz12_31
                  try clear hcz12_32
                  try clear hcz12_33
                  try clear hcz12_34
                  try clear hcz12_35
                  try clear hcz12_36
                  try clear hcz12_37
                  try clear hcz12_38
                  try clear hcz12_39
                  try clear hcz12_4
                  try clear hcz12_40
                  try clear hcz12_41
                  try clear hcz12_42
                  try clear hcz12_43
                  try clear hcz12_44
                  try clear hcz12_45
                  try clear hcz12_5
                  try clear hcz12_6
                  try clear hcz12_7
                  try clear hcz12_8
                  try clear hcz12_9
                  try clear hcz16_0
                  try clear hcz16_1
                  try clear hcz16_10
                  try clear hcz16_11
                  try clear hcz16_12
                  try clear hcz16_13
                  try clear hcz16_14
                  try clear hcz16_15
                  try clear hcz16_16
                  try clear hcz16_17
                  try clear hcz16_18
                  try clear hcz16_19
                  try clear hcz16_2
                  try clear hcz16_20
                  try clear hcz16_21
                  try clear hcz16_22
                  try clear hcz16_23
                  try clear hcz16_24
                  try clear hcz16_25
                  try clear hcz16_26
                  try clear hcz16_27
                  try clear hcz16_28
                  try clear hcz16_29
                  try clear hcz16_3
                  try clear hcz16_30
                  try clear hcz16_31
                  try clear hcz16_32
                  try clear hcz16_33
                  try clear hcz16_34
                  try clear hcz16_35
                  try clear hcz16_36
                  try clear hcz16_37
                  try clear hcz16_38
                  try clear hcz16_39
                  try clear hcz16_4
                  try clear hcz16_40
                  try clear hcz16_41
                  try clear hcz16_42
                  try clear hcz16_43
                  try clear hcz16_44
                  try clear hcz16_45
                  try clear hcz16_5
                  try clear hcz16_6
                  try clear hcz16_7
                  try clear hcz16_8
                  try clear hcz16_9
                  try clear hcz17_0
                  try clear hcz17_1
                  try clear hcz17_10
                  try clear hcz17_11
                  try clear hcz17_12
                  try clear hcz17_13
                  try clear hcz17_14
                  try clear hcz17_15
                  try clear hcz17_16
                  try clear hcz17_17
                  try clear hcz17_18
                  try clear hcz17_19
                  try clear hcz17_2
                  try clear hcz17_20
                  try clear hcz17_21
                  try clear hcz17_22
                  try clear hcz17_23
                  try clear hcz17_24
                  try clear hcz17_25
                  try clear hcz17_26
                  try clear hcz17_27
                  try clear hcz17_28
                  try clear hcz17_29
                  try clear hcz17_3
                  try clear hcz17_30
                  try clear hcz17_31
                  try clear hcz17_32
                  try clear hcz17_33
                  try clear hcz17_34
                  try clear hcz17_35
                  try clear hcz17_36
                  try clear hcz17_37
                  try clear hcz17_38
                  try clear hcz17_39
                  try clear hcz17_4
                  try clear hcz17_40
                  try clear hcz17_41
                  try clear hcz17_42
                  try clear hcz17_43
                  try clear hcz17_44
                  try clear hcz17_45
                  try clear hcz17_5
                  try clear hcz17_6
                  try clear hcz17_7
                  try clear hcz17_8
                  try clear hcz17_9
                  try clear hcz8_0
                  try clear hcz8_1
                  try clear hcz8_10
                  try clear hcz8_11
                  try clear hcz8_12
                  try clear hcz8_13
                  try clear hcz8_14
                  try clear hcz8_15
                  try clear hcz8_16
                  try clear hcz8_17
                  try clear hcz8_18
                  try clear hcz8_19
                  try clear hcz8_2
                  try clear hcz8_20
                  try clear hcz8_21
                  try clear hcz8_22
                  try clear hcz8_23
                  try clear hcz8_24
                  try clear hcz8_25
                  try clear hcz8_26
                  try clear hcz8_27
                  try clear hcz8_28
                  try clear hcz8_29
                  try clear hcz8_3
                  try clear hcz8_30
                  try clear hcz8_31
                  try clear hcz8_32
                  try clear hcz8_33
                  try clear hcz8_34
                  try clear hcz8_35
                  try clear hcz8_36
                  try clear hcz8_37
                  try clear hcz8_38
                  try clear hcz8_39
                  try clear hcz8_4
                  try clear hcz8_40
                  try clear hcz8_41
                  try clear hcz8_42
                  try clear hcz8_43
                  try clear hcz8_44
                  try clear hcz8_45
                  try clear hcz8_5
                  try clear hcz8_6
                  try clear hcz8_7
                  try clear hcz8_8
                  try clear hcz8_9
                  try clear hfz12_0
                  try clear hfz12_1
                  try clear hfz12_10
                  try clear hfz12_11
                  try clear hfz12_12
                  try clear hfz12_13
                  try clear hfz12_14
                  try clear hfz12_15
                  try clear hfz12_16
                  try clear hfz12_17
                  try clear hfz12_18
                  try clear hfz12_19
                  try clear hfz12_2
                  try clear hfz12_20
                  try clear hfz12_21
                  try clear hfz12_22
                  try clear hfz12_23
                  try clear hfz12_24
                  try clear hfz12_25
                  try clear hfz12_26
                  try clear hfz12_27
                  try clear hfz12_28
                  try clear hfz12_29
                  try clear hfz12_3
                  try clear hfz12_30
                  try clear hfz12_31
                  try clear hfz12_32
                  try clear hfz12_33
                  try clear hfz12_34
                  try clear hfz12_35
                  try clear hfz12_36
                  try clear hfz12_37
                  try clear hfz12_38
                  try clear hfz12_39
                  try clear hfz12_4
                  try clear hfz12_40
                  try clear hfz12_41
                  try clear hfz12_42
                  try clear hfz12_43
                  try clear hfz12_44
                  try clear hfz12_45
                  try clear hfz12_5
                  try clear hfz12_6
                  try clear hfz12_7
                  try clear hfz12_8
                  try clear hfz12_9
                  try clear hfz16_0
                  try clear hfz16_1
                  try clear hfz16_10
                  try clear hfz16_11
                  try clear hfz16_12
                  try clear hfz16_13
                  try clear hfz16_14
                  try clear hfz16_15
                  try clear hfz16_16
                  try clear hfz16_17
                  try clear hfz16_18
                  try clear hfz16_19
                  try clear hfz16_2
                  try clear hfz16_20
                  try clear hfz16_21
                  try clear hfz16_22
                  try clear hfz16_23
                  try clear hfz16_24
                  try clear hfz16_25
                  try clear hfz16_26
                  try clear hfz16_27
                  try clear hfz16_28
                  try clear hfz16_29
                  try clear hfz16_3
                  try clear hfz16_30
                  try clear hfz16_31
                  try clear hfz16_32
                  try clear hfz16_33
                  try clear hfz16_34
                  try clear hfz16_35
                  try clear hfz16_36
                  try clear hfz16_37
                  try clear hfz16_38
                  try clear hfz16_39
                  try clear hfz16_4
                  try clear hfz16_40
                  try clear hfz16_41
                  try clear hfz16_42
                  try clear hfz16_43
                  try clear hfz16_44
                  try clear hfz16_45
                  try clear hfz16_5
                  try clear hfz16_6
                  try clear hfz16_7
                  try clear hfz16_8
                  try clear hfz16_9
                  try clear hfz17_0
                  try clear hfz17_1
                  try clear hfz17_10
                  try clear hfz17_11
                  try clear hfz17_12
                  try clear hfz17_13
                  try clear hfz17_14
                  try clear hfz17_15
                  try clear hfz17_16
                  try clear hfz17_17
                  try clear hfz17_18
                  try clear hfz17_19
                  try clear hfz17_2
                  try clear hfz17_20
                  try clear hfz17_21
                  try clear hfz17_22
                  try clear hfz17_23
                  try clear hfz17_24
                  try clear hfz17_25
                  try clear hfz17_26
                  try clear hfz17_27
                  try clear hfz17_28
                  try clear hfz17_29
                  try clear hfz17_3
                  try clear hfz17_30
                  try clear hfz17_31
                  try clear hfz17_32
                  try clear hfz17_33
                  try clear hfz17_34
                  try clear hfz17_35
                  try clear hfz17_36
                  try clear hfz17_37
                  try clear hfz17_38
                  try clear hfz17_39
                  try clear hfz17_4
                  try clear hfz17_40
                  try clear hfz17_41
                  try clear hfz17_42
                  try clear hfz17_43
                  try clear hfz17_44
                  try clear hfz17_45
                  try clear hfz17_5
                  try clear hfz17_6
                  try clear hfz17_7
                  try clear hfz17_8
                  try clear hfz17_9
                  try clear hfz8_0
                  try clear hfz8_1
                  try clear hfz8_10
                  try clear hfz8_11
                  try clear hfz8_12
                  try clear hfz8_13
                  try clear hfz8_14
                  try clear hfz8_15
                  try clear hfz8_16
                  try clear hfz8_17
                  try clear hfz8_18
                  try clear hfz8_19
                  try clear hfz8_2
                  try clear hfz8_20
                  try clear hfz8_21
                  try clear hfz8_22
                  try clear hfz8_23
                  try clear hfz8_24
                  try clear hfz8_25
                  try clear hfz8_26
                  try clear hfz8_27
                  try clear hfz8_28
                  try clear hfz8_29
                  try clear hfz8_3
                  try clear hfz8_30
                  try clear hfz8_31
                  try clear hfz8_32
                  try clear hfz8_33
                  try clear hfz8_34
                  try clear hfz8_35
                  try clear hfz8_36
                  try clear hfz8_37
                  try clear hfz8_38
                  try clear hfz8_39
                  try clear hfz8_4
                  try clear hfz8_40
                  try clear hfz8_41
                  try clear hfz8_42
                  try clear hfz8_43
                  try clear hfz8_44
                  try clear hfz8_45
                  try clear hfz8_5
                  try clear hfz8_6
                  try clear hfz8_7
                  try clear hfz8_8
                  try clear hfz8_9
                  try clear p2
                  obtain ⟨kq, x30_13, rfl, HA, HJ13, HO_7, BK130, HB⟩ := hcut
                  cases kq with
                  | zero => exact absurd HA.out (by simp [culetref16_Positions.j2])
                  | succ kj13 =>
                    have H := HA.out
                    clear HA
                    simp only [culetref16_Positions.j2] at H
                    by_cases c18 : x30_13 = true
                    · subst c18
                      have H1 : (if 0 ≤ x10_2 then (if x10_2 < (l2_3.length : Int) then ((culetref16_Orbit.f kj13 a0 a1 (rd l2_3 x10_2)).bind fun t136 => ((culetref16_Has.f kj13 t136 x8_1).bind fun t139 => (culetref16_Positions.l1 kj13 a0 a1 x7_1 x8_1 t139 (wrap64 (x10_2 + 1)) a2_0 a2_1 a2_2 l2_3 a2_4 a2_5 a2_6 a2_7 a2_8 a2_9 a2_10 a2_11 a2_12 a2_13 a2_14 a2_15 a2_16 a2_17 a2_18 a2_19 a2_20 a2_21 a2_22 a2_23 a2_24 a2_25 a2_26 a2_27 a2_28 a2_29 a2_30 a2_31 a2_32 a2_33 a2_34 a2_35 a2_36 a2_37 a2_38 a2_39 a2_40 a2_41 a2_42 a2_43 a2_44 l2_45))) else (none)) else (none)) = some r := by rw [if_pos rfl] at H; exact H
                      clear H
                      have H := H1
                      clear H1
                      by_cases c19 : 0 ≤ x10_2
                      · rw [if_pos c19] at H
                        have c19b0 : decide (0 ≤ x10_2) = true := decide_eq_true c19
                        clear c19
                        by_cases c20 : x10_2 < (l2_3.length : Int)
                        · rw [if_pos c20] at H
                          have c20b0 : decide (x10_2 < (l2_3.length : Int)) = true := decide_eq_true c20
                          clear c20
                          replace H := Option.bind_eq_some_iff.mp H
                          obtain ⟨t136, A210, H⟩ := H
                          replace H : ((culetref16_Has.f kj13 t136 x8_1).bind fun t139 => (culetref16_Positions.l1 kj13 a0 a1 x7_1 x8_1 t139 (wrap64 (x10_2 + 1)) a2_0 a2_1 a2_2 l2_3 a2_4 a2_5 a2_6 a2_7 a2_8 a2_9 a2_10 a2_11 a2_12 a2_13 a2_14 a2_15 a2_16 a2_17 a2_18 a2_19 a2_20 a2_21 a2_22 a2_23 a2_24 a2_25 a2_26 a2_27 a2_28 a2_29 a2_30 a2_31 a2_32 a2_33 a2_34 a2_35 a2_36 a2_37 a2_38 a2_39 a2_40 a2_41 a2_42 a2_43 a2_44 l2_45)) = some r := H
                          have A21 := Aside0.mk A210
                          clear A210
                          replace H := Option.bind_eq_some_iff.mp H
                          obtain ⟨t139, A220, H⟩ := H
                          replace H : (culetref16_Positions.l1 kj13 a0 a1 x7_1 x8_1 t139 (wrap64 (x10_2 + 1)) a2_0 a2_1 a2_2 l2_3 a2_4 a2_5 a2_6 a2_7 a2_8 a2_9 a2_10 a2_11 a2_12 a2_13 a2_14 a2_15 a2_16 a2_17 a2_18 a2_19 a2_20 a2_21 a2_22 a2_23 a2_24 a2_25 a2_26 a2_27 a2_28 a2_29 a2_30 a2_31 a2_32 a2_33 a2_34 a2_35 a2_36 a2_37 a2_38 a2_39 a2_40 a2_41 a2_42 a2_43 a2_44 l2_45) = some r := H
                          have A22 := Aside0.mk A220
                          clear A220
                          have H' := Aside0.mk H
                          clear H
                          have hcz23_0 : wc.cell? ⟨gb130, 0, none⟩ = some (.string a2_0) := (blk_cell BK130.out 0).trans rfl
                          have hcz23_1 : wc.cell? ⟨gb130, 1, none⟩ = some (.int .i64 a2_1) := (blk_cell BK130.out 1).trans rfl
                          have hcz23_2 : wc.cell? ⟨gb130, 2, none⟩ = some (.int .i64 a2_2) := (blk_cell BK130.out 2).trans rfl
                          have hcz23_3 : wc.cell? ⟨gb130, 3, none⟩ = some (.slice A2_3 l2_3.length c2_3) := (blk_cell BK130.out 3).trans rfl
                          have hcz23_4 : wc.cell? ⟨gb130, 4, none⟩ = some (.int .i64 a2_4) := (blk_cell BK130.out 4).trans rfl
                          have hcz23_5 : wc.cell? ⟨gb130, 5, none⟩ = some (.bool a2_5) := (blk_cell BK130.out 5).trans rfl
                          have hcz23_6 : wc.cell? ⟨gb130, 6, none⟩ = some (.string a2_6) := (blk_cell BK130.out 6).trans rfl
                          have hcz23_7 : wc.cell? ⟨gb130, 7, none⟩ = some (.bool a2_7) := (blk_cell BK130.out 7).trans rfl
                          have hcz23_8 : wc.cell? ⟨gb130, 8, none⟩ = some (.string a2_8) := (blk_cell BK130.out 8).trans rfl
                          have hcz23_9 : wc.cell? ⟨gb130, 9, none⟩ = some (.bool a2_9) := (blk_cell BK130.out 9).trans rfl
                          have hcz23_10 : wc.cell? ⟨gb130, 10, none⟩ = some (.string a2_10) := (blk_cell BK130.out 10).trans rfl
                          have hcz23_11 : wc.cell? ⟨gb130, 11, none⟩ = some (.bool a2_11) := (blk_cell BK130.out 11).trans rfl
                          have hcz23_12 : wc.cell? ⟨gb130, 12, none⟩ = some (.string a2_12) := (blk_cell BK130.out 12).trans rfl
                          have hcz23_13 : wc.cell? ⟨gb130, 13, none⟩ = some (.bool a2_13) := (blk_cell BK130.out 13).trans rfl
                          have hcz23_14 : wc.cell? ⟨gb130, 14, none⟩ = some (.string a2_14) := (blk_cell BK130.out 14).trans rfl
                          have hcz23_15 : wc.cell? ⟨gb130, 15, none⟩ = some (.bool a2_15) := (blk_cell BK130.out 15).trans rfl
                          have hcz23_16 : wc.cell? ⟨gb130, 16, none⟩ = some (.string a2_16) := (blk_cell BK130.out 16).trans rfl
                          have hcz23_17 : wc.cell? ⟨gb130, 17, none⟩ = some (.bool a2_17) := (blk_cell BK130.out 17).trans rfl
                          have hcz23_18 : wc.cell? ⟨gb130, 18, none⟩ = some (.string a2_18) := (blk_cell BK130.out 18).trans rfl
                          have hcz23_19 : wc.cell? ⟨gb130, 19, none⟩ = some (.bool a2_19) := (blk_cell BK130.out 19).trans rfl
                          have hcz23_20 : wc.cell? ⟨gb130, 20, none⟩ = some (.string a2_20) := (blk_cell BK130.out 20).trans rfl
                          have hcz23_21 : wc.cell? ⟨gb130, 21, none⟩ = some (.bool a2_21) := (blk_cell BK130.out 21).trans rfl
                          have hcz23_22 : wc.cell? ⟨gb130, 22, none⟩ = some (.string a2_22) := (blk_cell BK130.out 22).trans rfl
                          have hcz23_23 : wc.cell? ⟨gb130, 23, none⟩ = some (.bool a2_23) := (blk_cell BK130.out 23).trans rfl
                          have hcz23_24 : wc.cell? ⟨gb130, 24, none⟩ = some (.string a2_24) := (blk_cell BK130.out 24).trans rfl
                          have hcz23_25 : wc.cell? ⟨gb130, 25, none⟩ = some (.bool a2_25) := (blk_cell BK130.out 25).trans rfl
                          have hcz23_26 : wc.cell? ⟨gb130, 26, none⟩ = some (.string a2_26) := (blk_cell BK130.out 26).trans rfl
                          have hcz23_27 : wc.cell? ⟨gb130, 27, none⟩ = some (.bool a2_27) := (blk_cell BK130.out 27).trans rfl
                          have hcz23_28 : wc.cell? ⟨gb130, 28, none⟩ = some (.string a2_28) := (blk_cell BK130.out 28).trans rfl
                          have hcz23_29 : wc.cell? ⟨gb130, 29, none⟩ = some (.bool a2_29) := (blk_cell BK130.out 29).trans rfl
                          have hcz23_30 : wc.cell? ⟨gb130, 30, none⟩ = some (.string a2_30) := (blk_cell BK130.out 30).trans rfl
                          have hcz23_31 : wc.cell? ⟨gb130, 31, none⟩ = some (.bool a2_31) := (blk_cell BK130.out 31).trans rfl
                          have hcz23_32 : wc.cell? ⟨gb130, 32, none⟩ = some (.string a2_32) := (blk_cell BK130.out 32).trans rfl
                          have hcz23_33 : wc.cell? ⟨gb130, 33, none⟩ = some (.bool a2_33) := (blk_cell BK130.out 33).trans rfl
                          have hcz23_34 : wc.cell? ⟨gb130, 34, none⟩ = some (.string a2_34) := (blk_cell BK130.out 34).trans rfl
                          have hcz23_35 : wc.cell? ⟨gb130, 35, none⟩ = some (.bool a2_35) := (blk_cell BK130.out 35).trans rfl
                          have hcz23_36 : wc.cell? ⟨gb130, 36, none⟩ = some (.string a2_36) := (blk_cell BK130.out 36).trans rfl
                          have hcz23_37 : wc.cell? ⟨gb130, 37, none⟩ = some (.bool a2_37) := (blk_cell BK130.out 37).trans rfl
                          have hcz23_38 : wc.cell? ⟨gb130, 38, none⟩ = some (.string a2_38) := (blk_cell BK130.out 38).trans rfl
                          have hcz23_39 : wc.cell? ⟨gb130, 39, none⟩ = some (.bool a2_39) := (blk_cell BK130.out 39).trans rfl
                          have hcz23_40 : wc.cell? ⟨gb130, 40, none⟩ = some (.string a2_40) := (blk_cell BK130.out 40).trans rfl
                          have hcz23_41 : wc.cell? ⟨gb130, 41, none⟩ = some (.bool a2_41) := (blk_cell BK130.out 41).trans rfl
                          have hcz23_42 : wc.cell? ⟨gb130, 42, none⟩ = some (.string a2_42) := (blk_cell BK130.out 42).trans rfl
                          have hcz23_43 : wc.cell? ⟨gb130, 43, none⟩ = some (.bool a2_43) := (blk_cell BK130.out 43).trans rfl
                          have hcz23_44 : wc.cell? ⟨gb130, 44, none⟩ = some (.string a2_44) := (blk_cell BK130.out 44).trans rfl
                          have hcz23_45 : wc.cell? ⟨gb130, 45, none⟩ = some (.slice A2_45 l2_45.length c2_45) := (blk_cell BK130.out 45).trans rfl
                          have hfz23_0 := blk_frozen BK130.out 0
                          have hfz23_1 := blk_frozen BK130.out 1
                          have hfz23_2 := blk_frozen BK130.out 2
                          have hfz23_3 := blk_frozen BK130.out 3
                          have hfz23_4 := blk_frozen BK130.out 4
                          have hfz23_5 := blk_frozen BK130.out 5
                          have hfz23_6 := blk_frozen BK130.out 6
                          have hfz23_7 := blk_frozen BK130.out 7
                          have hfz23_8 := blk_frozen BK130.out 8
                          have hfz23_9 := blk_frozen BK130.out 9
                          have hfz23_10 := blk_frozen BK130.out 10
                          have hfz23_11 := blk_frozen BK130.out 11
                          have hfz23_12 := blk_frozen BK130.out 12
                          have hfz23_13 := blk_frozen BK130.out 13
                          have hfz23_14 := blk_frozen BK130.out 14
                          have hfz23_15 := blk_frozen BK130.out 15
                          have hfz23_16 := blk_frozen BK130.out 16
                          have hfz23_17 := blk_frozen BK130.out 17
                          have hfz23_18 := blk_frozen BK130.out 18
                          have hfz23_19 := blk_frozen BK130.out 19
                          have hfz23_20 := blk_frozen BK130.out 20
                          have hfz23_21 := blk_frozen BK130.out 21
                          have hfz23_22 := blk_frozen BK130.out 22
                          have hfz23_23 := blk_frozen BK130.out 23
                          have hfz23_24 := blk_frozen BK130.out 24
                          have hfz23_25 := blk_frozen BK130.out 25
                          have hfz23_26 := blk_frozen BK130.out 26
                          have hfz23_27 := blk_frozen BK130.out 27
                          have hfz23_28 := blk_frozen BK130.out 28
                          have hfz23_29 := blk_frozen BK130.out 29
                          have hfz23_30 := blk_frozen BK130.out 30
                          have hfz23_31 := blk_frozen BK130.out 31
                          have hfz23_32 := blk_frozen BK130.out 32
                          have hfz23_33 := blk_frozen BK130.out 33
                          have hfz23_34 := blk_frozen BK130.out 34
                          have hfz23_35 := blk_frozen BK130.out 35
                          have hfz23_36 := blk_frozen BK130.out 36
                          have hfz23_37 := blk_frozen BK130.out 37
                          have hfz23_38 := blk_frozen BK130.out 38
                          have hfz23_39 := blk_frozen BK130.out 39
                          have hfz23_40 := blk_frozen BK130.out 40
                          have hfz23_41 := blk_frozen BK130.out 41
                          have hfz23_42 := blk_frozen BK130.out 42
                          have hfz23_43 := blk_frozen BK130.out 43
                          have hfz23_44 := blk_frozen BK130.out 44
                          have hfz23_45 := blk_frozen BK130.out 45
                          have p135 : 0 ≤ (x10_2 : Int) := of_decide_eq_true (by first | (with_reducible assumption) | assumption)
                          have q135 : x10_2 < (l2_3.length : Int) := of_decide_eq_true (by first | (with_reducible assumption) | assumption)
                          obtain ⟨ad135, e135, hx135_0⟩ := Kd.at_int HR2_3.out x10_2 p135 q135
                          cases e135
                          replace hx135_0 := (HB.out.cell (World.block_lt_of_cell? w _ hx135_0)).trans hx135_0
                          replace p135 := eq_true p135
                          replace q135 := eq_true q135
                          go_wp2_with (first | ((with_reducible refine gate_callee (f := 20) rfl ?_); refine goesL_ (some 40) rfl rfl Try.func20 (by kernel_rfl) rfl #[.int .i64 a0, .bool a1, .int .i64 (rd l2_3 x10_2)] rfl (by (try simp only [List.map_toArray, List.map_cons, List.map_nil]); first | done | rfl | (simp only [List.length_drop, List.length_take]; rfl)) ?_; (with_reducible refine (culetref16_Orbit.calls kj13 a0 a1 (rd l2_3 x10_2) t136 _ A21.out).mono ?_); rintro e w24 ⟨v137, rfl, ho0, hb⟩; refine ⟨_, rfl, ?_⟩; have n0_ := Aside0.mk (Kd.R_elder' (by (with_reducible repeat (first | apply Kd.R_alloc | apply Kd.R_drewN | apply Kd.R_drew)); exact HO_7.out) (Kd.R_base ho0) hb); have n1_ := Aside0.mk (Kd.R_lower (Kd.R_new' ho0 (Kd.R_lt (by (with_reducible repeat (first | apply Kd.R_alloc | apply Kd.R_drewN | apply Kd.R_drew)); exact HO_7.out))) (below_size (by repeat (first | (with_reducible first | exact HB.out | apply below_alloc | apply pw_below_drewN | apply below_drew1 | refine below_set ?_ GE130.out) | exact HB.out)))); have n2_ := Aside0.mk (blk_below (g := gb130) (o := .cells #[.string a2_0, .int .i64 a2_1, .int .i64 a2_2, .slice (some ad135) l2_3.length c2_3, .int .i64 a2_4, .bool a2_5, .string a2_6, .bool a2_7, .string a2_8, .bool a2_9, .string a2_10, .bool a2_11, .string a2_12, .bool a2_13, .string a2_14, .bool a2_15, .string a2_16, .bool a2_17, .string a2_18, .bool a2_19, .string a2_20, .bool a2_21, .string a2_22, .bool a2_23, .string a2_24, .bool a2_25, .string a2_26, .bool a2_27, .string a2_28, .bool a2_29, .string a2_30, .bool a2_31, .string a2_32, .bool a2_33, .string a2_34, .bool a2_35, .string a2_36, .bool a2_37, .string a2_38, .bool a2_39, .string a2_40, .bool a2_41, .string a2_42, .bool a2_43, .string a2_44, .slice A2_45 l2_45.length c2_45] 51 (0, 0)) (by (with_reducible repeat (first | refine blk_drewN ?_ _ | refine blk_drew ?_ | refine blk_alloc ?_ _)); exact BK130.out) hb); have n3_ := Aside0.mk (below_step (by repeat (first | (with_reducible first | exact HB.out | apply below_alloc | apply pw_below_drewN | apply below_drew1 | refine below_set ?_ GE130.out) | exact HB.out)) hb); clear HO_7; clear BK130; clear HB; have HO_7 := n0_; have HO138 := n1_; have BK130 := n2_; have HB := n3_; clear n0_ n1_ n2_ n3_; (try clear hb); (try clear hb2); (try clear hk); (try clear hi); (try clear ho0); obtain ⟨Ao25, co25, eo25⟩ := Kd.R_slice HO138.out; subst eo25) | ((with_reducible refine gate_callee (f := 23) rfl ?_); refine goesL_ (some 42) rfl rfl Try.func23 (by kernel_rfl) rfl #[.slice Ao25 t136.length co25, .int .i64 x8_1] rfl (by (try simp only [List.map_toArray, List.map_cons, List.map_nil]); first | done | rfl | (simp only [List.length_drop, List.length_take]; rfl)) ?_; (with_reducible refine (culetref16_Has.calls kj13 _ _ t136 x8_1 t139 _ ?side1 ?side2 A22.out).mono ?_); (case side1 => repeat (first | exact (Kd.R_reads' HO138.out).2.2 | (with_reducible refine Kd.C_alloc ?_ _) | (with_reducible refine Kd.C_drewN ?_ _) | (with_reducible refine Kd.C_drew ?_))); (case side2 => exact (Kd.R_reads' HO138.out).2.1); rintro e w' ⟨rfl, ⟨nd, rfl⟩⟩; refine ⟨_, rfl, ?_⟩))
                          go_roundg kj13
                          case measure => have := HK1.out; have := HK2.out; have := HJ13.out; omega
                          case rel => exact ⟨(t139), (wrap64 (x10_2 + 1)), (by first | rfl | (simp; done) | (simp [*]; done)), (by first | rfl | (simp; done) | (simp [*]; done)), H', ⟨by have := HK1.out; have := HK2.out; have := HJ13.out; omega⟩, ⟨by (with_reducible repeat (first | apply Kd.R_alloc | apply Kd.R_drewN | apply Kd.R_drew)); exact Kd.R_mono HO_7.out (fun _ hk => trivial)⟩, ⟨by (with_reducible repeat (first | refine blk_drewN ?_ _ | refine blk_drew ?_ | refine blk_alloc ?_ _)); exact BK130.out⟩, ⟨by repeat (first | (with_reducible first | exact HB.out | apply below_alloc | apply pw_below_drewN | apply below_drew1 | refine below_set ?_ GE130.out) | exact HB.out)⟩⟩
                        · rw [if_neg c20] at H
                          exact absurd H (by simp)
                      · rw [if_neg c19] at H
                        exact absurd H (by simp)
                    · replace c18 := Bool.eq_false_iff.mpr c18
                      subst c18
                      have H1 : (if x9_2 = true then (if x7_1.length < 17592186044416 then (culetref16_Positions.l0 kj13 a0 a1 (x7_1 ++ [x8_1]) (wrap64 (x8_1 + 1)) a2_0 a2_1 a2_2 l2_3 a2_4 a2_5 a2_6 a2_7 a2_8 a2_9 a2_10 a2_11 a2_12 a2_13 a2_14 a2_15 a2_16 a2_17 a2_18 a2_19 a2_20 a2_21 a2_22 a2_23 a2_24 a2_25 a2_26 a2_27 a2_28 a2_29 a2_30 a2_31 a2_32 a2_33 a2_34 a2_35 a2_36 a2_37 a2_38 a2_39 a2_40 a2_41 a2_42 a2_43 a2_44 l2_45) else (none)) else (culetref16_Positions.l0 kj13 a0 a1 x7_1 (wrap64 (x8_1 + 1)) a2_0 a2_1 a2_2 l2_3 a2_4 a2_5 a2_6 a2_7 a2_8 a2_9 a2_10 a2_11 a2_12 a2_13 a2_14 a2_15 a2_16 a2_17 a2_18 a2_19 a2_20 a2_21 a2_22 a2_23 a2_24 a2_25 a2_26 a2_27 a2_28 a2_29 a2_30 a2_31 a2_32 a2_33 a2_34 a2_35 a2_36 a2_37 a2_38 a2_39 a2_40 a2_41 a2_42 a2_43 a2_44 l2_45)) = some r := by rw [if_neg (show ¬ (false = true) by decide)] at H; exact H
                      clear H
                      have H := H1
                      clear H1
                      by_cases c26 : x9_2 = true
                      · subst c26
                        have H1 : (if x7_1.length < 17592186044416 then (culetref16_Positions.l0 kj13 a0 a1 (x7_1 ++ [x8_1]) (wrap64 (x8_1 + 1)) a2_0 a2_1 a2_2 l2_3 a2_4 a2_5 a2_6 a2_7 a2_8 a2_9 a2_10 a2_11 a2_12 a2_13 a2_14 a2_15 a2_16 a2_17 a2_18 a2_19 a2_20 a2_21 a2_22 a2_23 a2_24 a2_25 a2_26 a2_27 a2_28 a2_29 a2_30 a2_31 a2_32 a2_33 a2_34 a2_35 a2_36 a2_37 a2_38 a2_39 a2_40 a2_41 a2_42 a2_43 a2_44 l2_45) else (none)) = some r := by rw [if_pos rfl] at H; exact H
                        clear H
                        have H := H1
                        clear H1
                        by_cases c27 : x7_1.length < 17592186044416
                        · rw [if_pos c27] at H
                          have LMc27 := Aside0.mk c27
                          clear c27
                          obtain ⟨y140, hy140⟩ : ∃ y_ : List Int, y_ = (x7_1 ++ [x8_1]) := ⟨_, rfl⟩
                          replace H : (culetref16_Positions.l0 kj13 a0 a1 y140 (wrap64 (x8_1 + 1)) a2_0 a2_1 a2_2 l2_3 a2_4 a2_5 a2_6 a2_7 a2_8 a2_9 a2_10 a2_11 a2_12 a2_13 a2_14 a2_15 a2_16 a2_17 a2_18 a2_19 a2_20 a2_21 a2_22 a2_23 a2_24 a2_25 a2_26 a2_27 a2_28 a2_29 a2_30 a2_31 a2_32 a2_33 a2_34 a2_35 a2_36 a2_37 a2_38 a2_39 a2_40 a2_41 a2_42 a2_43 a2_44 l2_45) = some r := by first | (rw [hy140]; with_reducible exact H) | (have H2_ := (Option.bind_some _ _).symm.trans H; rw [hy140]; with_reducible exact H2_) | (have H2_ := (Option.bind_some _ _).symm.trans H; with_reducible exact H2_) | with_reducible exact H | (rw [hy140]; exact H) | exact H
                          have Ny140 := Aside0.mk hy140
                          clear hy140
                          have H' := Aside0.mk H
                          clear H
                          go_wp2_with (first | ((with_reducible refine gate_builtin (b := .append) (xs := #[.tmp 44, .tmp 46]) rfl ?_); at_builtin; refine Kd.R_append (Kd.int .i64) (w0 := w) w.heap.size rfl (.tmp 44) (.tmp 46) 24 3 (.int .i64 0) 8 rfl Try.underlying24 info3 rfl (by decide) (by omega) u7 x7_1 x8_1 [.int .i64 x8_1] (fun _ => True) (fun _ => False) rfl rfl ?aP (fun _ hk => hk.elim) ?aF ?aO ?aB ?aS ?aL ?_; (case aP => exact rfl); (case aB => exact (by repeat (first | (with_reducible first | exact HB.out | apply below_alloc | apply pw_below_drewN | apply below_drew1 | refine below_set ?_ GE130.out) | exact HB.out))); (case aF => exact (fun _ _ => trivial)); (case aO => exact (by (with_reducible repeat (first | apply Kd.R_alloc | apply Kd.R_drewN | apply Kd.R_drew)); exact HO_7.out)); (case aS => exact (below_size (by repeat (first | (with_reducible first | exact HB.out | apply below_alloc | apply pw_below_drewN | apply below_drew1 | refine below_set ?_ GE130.out) | exact HB.out)))); (case aL => have := LMc27.out; omega); intro v141 w28 ho hb hg hat; rw [← Ny140.out] at ho; have n0_ := Aside0.mk (blk_grown (g := gb130) (o := .cells #[.string a2_0, .int .i64 a2_1, .int .i64 a2_2, .slice A2_3 l2_3.length c2_3, .int .i64 a2_4, .bool a2_5, .string a2_6, .bool a2_7, .string a2_8, .bool a2_9, .string a2_10, .bool a2_11, .string a2_12, .bool a2_13, .string a2_14, .bool a2_15, .string a2_16, .bool a2_17, .string a2_18, .bool a2_19, .string a2_20, .bool a2_21, .string a2_22, .bool a2_23, .string a2_24, .bool a2_25, .string a2_26, .bool a2_27, .string a2_28, .bool a2_29, .string a2_30, .bool a2_31, .string a2_32, .bool a2_33, .string a2_34, .bool a2_35, .string a2_36, .bool a2_37, .string a2_38, .bool a2_39, .string a2_40, .bool a2_41, .string a2_42, .bool a2_43, .string a2_44, .slice A2_45 l2_45.length c2_45] 51 (0, 0)) (by (with_reducible repeat (first | refine blk_drewN ?_ _ | refine blk_drew ?_ | refine blk_alloc ?_ _)); exact BK130.out) hg (Kd.R_ne HO_7.out BK130.out (by decide))); have n1_ := Aside0.mk (hb); have n2_ := Aside0.mk (ho); clear BK130; clear HB; clear HO_7; have BK130 := n0_; have HB := n1_; have HO142 := n2_; clear n0_ n1_ n2_; clear ho hb hg hat))
                          go_roundg kj13
                          case measure => have := HK1.out; have := HK2.out; have := HJ13.out; omega
                          case rel => exact ⟨(y140), (wrap64 (x8_1 + 1)), (by first | rfl | (simp; done) | (simp [*]; done)), H', ⟨by have := HK1.out; have := HK2.out; have := HJ13.out; omega⟩, ⟨by (with_reducible repeat (first | apply Kd.R_alloc | apply Kd.R_drewN | apply Kd.R_drew)); exact HO142.out⟩, ⟨by (with_reducible repeat (first | refine blk_drewN ?_ _ | refine blk_drew ?_ | refine blk_alloc ?_ _)); exact BK130.out⟩, ⟨by repeat (first | (with_reducible first | exact HB.out | apply below_alloc | apply pw_below_drewN | apply below_drew1 | refine below_set ?_ GE130.out) | exact HB.out)⟩⟩
                        · rw [if_neg c27] at H
                          exact absurd H (by simp)
                      · replace c26 := Bool.eq_false_iff.mpr c26
                        subst c26
                        have H1 : (culetref16_Positions.l0 kj13 a0 a1 x7_1 (wrap64 (x8_1 + 1)) a2_0 a2_1 a2_2 l2_3 a2_4 a2_5 a2_6 a2_7 a2_8 a2_9 a2_10 a2_11 a2_12 a2_13 a2_14 a2_15 a2_16 a2_17 a2_18 a2_19 a2_20 a2_21 a2_22 a2_23 a2_24 a2_25 a2_26 a2_27 a2_28 a2_29 a2_30 a2_31 a2_32 a2_33 a2_34 a2_35 a2_36 a2_37 a2_38 a2_39 a2_40 a2_41 a2_42 a2_43 a2_44 l2_45) = some r := by rw [if_neg (show ¬ (false = true) by decide)] at H; exact H
                        clear H
                        have H := H1
                        clear H1
                        have H' := Aside0.mk H
                        clear H
                        go_wp2
                        go_roundg kj13
                        case measure => have := HK1.out; have := HK2.out; have := HJ13.out; omega
                        case rel => exact ⟨(x7_1), (wrap64 (x8_1 + 1)), (by first | rfl | (simp; done) | (simp [*]; done)), H', ⟨by have := HK1.out; have := HK2.out; have := HJ13.out; omega⟩, ⟨by (with_reducible repeat (first | apply Kd.R_alloc | apply Kd.R_drewN | apply Kd.R_drew)); exact HO_7.out⟩, ⟨by (with_reducible repeat (first | refine blk_drewN ?_ _ | refine blk_drew ?_ | refine blk_alloc ?_ _)); exact BK130.out⟩, ⟨by repeat (first | (with_reducible first | exact HB.out | apply below_alloc | apply pw_below_drewN | apply below_drew1 | refine below_set ?_ GE130.out) | exact HB.out)⟩⟩
          · rw [if_neg c13] at H
            have c13b0 : decide (x8_1 < 24) = false := decide_eq_false c13
            clear c13
            obtain rfl := Option.some.inj H
            go_wp2
            go_ret
            exact ⟨_, by first | rfl | (simp [errW_none, errW_some] <;> rfl) | (simp [*, errW_none, errW_some] <;> rfl), by (with_reducible repeat (first | apply Kd.R_alloc | apply Kd.R_drewN | apply Kd.R_drew)); exact HO_7.out, by repeat (first | (with_reducible first | exact HB.out | apply below_alloc | apply pw_below_drewN | apply below_drew1 | refine below_set ?_ GE130.out) | exact HB.out)⟩
  · replace c5 := Bool.eq_false_iff.mpr c5
    subst c5
    have H1 : (some ([] : List Int)) = some r := by rw [if_neg (show ¬ (false = true) by decide)] at H; exact H
    clear H
    have H := H1
    clear H1
    obtain rfl := Option.some.inj H
    go_enter Try.func22, Try.ntmps22
    go_wp2_with (first | ((with_reducible refine gate_dst (N := 5) rfl ?_); refine box_event ?hg (N := 5) ?hd (cs := #[.string a2_0, .int .i64 a2_1, .int .i64 a2_2, .slice A2_3 l2_3.length c2_3, .int .i64 a2_4, .bool a2_5, .string a2_6, .bool a2_7, .string a2_8, .bool a2_9, .string a2_10, .bool a2_11, .string a2_12, .bool a2_13, .string a2_14, .bool a2_15, .string a2_16, .bool a2_17, .string a2_18, .bool a2_19, .string a2_20, .bool a2_21, .string a2_22, .bool a2_23, .string a2_24, .bool a2_25, .string a2_26, .bool a2_27, .string a2_28, .bool a2_29, .string a2_30, .bool a2_31, .string a2_32, .bool a2_33, .string a2_34, .bool a2_35, .string a2_36, .bool a2_37, .string a2_38, .bool a2_39, .string a2_40, .bool a2_41, .string a2_42, .bool a2_43, .string a2_44, .slice A2_45 l2_45.length c2_45]) (t := 51) ?hr ?_; (case hd => rfl); (case hg => rfl); (case hr => first | (go_simp; done) | (go_simp; rfl)); intro gb130 hg w29 hbox hb; have n0_ := Aside0.mk (below_step (by repeat (first | (with_reducible first | exact HB.out | apply below_alloc | apply pw_below_drewN | apply below_drew1) | exact HB.out)) hb); have n1_ := Aside0.mk (hbox); have n2_ := Aside0.mk ((by rw [hg]; exact (below_size (by repeat (first | (with_reducible first | exact HB.out | apply below_alloc | apply pw_below_drewN | apply below_drew1) | exact HB.out))) : w.heap.size ≤ gb130)); have n3_ := Aside0.mk ((by rw [hg]; exact (below_size (by repeat (first | (with_reducible first | exact HB.out | apply below_alloc | apply pw_below_drewN | apply below_drew1) | exact HB.out))) : w.heap.size ≤ gb130)); clear HB; have HB := n0_; have BK130 := n1_; have GW130 := n2_; have GE130 := n3_; clear n0_ n1_ n2_ n3_; clear hb hbox hg) | ((with_reducible refine gate_callee (f := 57) rfl ?_); refine goesL_ (some 12) rfl rfl Try.func57 (by kernel_rfl) rfl #[.int .i64 a0] rfl (by (try simp only [List.map_toArray, List.map_cons, List.map_nil]); first | done | rfl | (simp only [List.length_drop, List.length_take]; rfl)) ?_; (with_reducible refine (culetref16_divides.calls a0 false _ A4.out).mono ?_); rintro e w' ⟨rfl, ⟨nd, rfl⟩⟩; refine ⟨_, rfl, ?_⟩))
    go_ret
    exact ⟨_, by first | rfl | (simp [errW_none, errW_some] <;> rfl) | (simp [*, errW_none, errW_some] <;> rfl), by first | exact Kd.R_nil _ _ _ _ _ | exact Kd.N_nil _ _ _ _ _ | exact Kd.V_nil _ _ _ _ _ | exact Kd.Q_nil _ _ _ _ _ | exact Kd.S_nil _ _ _ _ _, by repeat (first | (with_reducible first | exact HB.out | apply below_alloc | apply pw_below_drewN | apply below_drew1 | refine below_set ?_ GE130.out) | exact HB.out)⟩

end Go.Proofs.Ytncemdpmooakgaa.XK
