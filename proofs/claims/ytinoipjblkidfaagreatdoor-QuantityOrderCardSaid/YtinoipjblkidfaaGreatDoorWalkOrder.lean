/- The law that Compare is an order: plainly, and its walk. -/
import Derived.Test.YtinoipjblkidfaaGreatDoorC17
/- The law that Compare is an order: plainly, and its walk. -/
namespace Go.Proofs.YtinoipjblkidfaaGreatDoor
open Go.RowKit Go.Proofs.YtinoipjblkidfaaGreatDoor.Dg Go.Proofs.YtinoipjblkidfaaGreatDoor.Q Go.Proofs.YtinoipjblkidfaaGreatDoor.Num

theorem qcm_some {l m : List UInt8} {a b : Rat} (h1 : num? l = some a) (h2 : num? m = some b) : qcm l m = (sign (a - b), true) := by unfold qcm; rw [h1, h2]
theorem qcm_parts {l m : List UInt8} (h : (qcm l m).2 = true) : ∃ a b, num? l = some a ∧ num? m = some b := by
  unfold qcm at h
  cases h1 : num? l with
  | none => rw [h1] at h; cases h
  | some a =>
    cases h2 : num? m with
    | none => rw [h1, h2] at h; cases h
    | some b => exact ⟨a, b, rfl, rfl⟩
theorem qcm_left {l m : List UInt8} (h1 : num? l = none) : qcm l m = (0, false) := by unfold qcm; rw [h1]
theorem qcm_right {l m : List UInt8} (h1 : num? m = none) : qcm l m = (0, false) := by
  unfold qcm
  rw [h1]
  cases num? l <;> rfl
theorem sub_agrees {x y : List UInt8} {p q : Rat} (hx : num? x = some p) (hy : num? y = some q) (h : (qcm (bin dSub x y) [48]).2 = true) : (qcm (bin dSub x y) [48]).1 = sign (p - q) := by
  obtain ⟨a, b, h1, h2⟩ := qcm_parts h
  obtain ⟨c, d, m1, m2, m3⟩ := bin_some h1
  rw [hx] at m1
  rw [hy] at m2
  rw [qcm_some h1 h2]
  rw [num_zero] at h2
  cases m1; cases m2; cases h2; cases m3
  show sign (p - q - 0) = _
  congr 1
  grind
theorem add_agrees {x y z : List UInt8} {p q r : Rat} (hx : num? x = some p) (hy : num? y = some q) (hz : num? z = some r) (h : (qcm (bin dAdd x z) (bin dAdd y z)).2 = true) : (qcm (bin dAdd x z) (bin dAdd y z)).1 = sign (p - q) := by
  obtain ⟨a, b, h1, h2⟩ := qcm_parts h
  obtain ⟨c, d, m1, m2, m3⟩ := bin_some h1
  obtain ⟨c', d', m4, m5, m6⟩ := bin_some h2
  rw [hx] at m1
  rw [hz] at m2
  rw [hy] at m4
  rw [hz] at m5
  rw [qcm_some h1 h2]
  cases m1; cases m2; cases m3; cases m4; cases m5; cases m6
  show sign (p + r - (q + r)) = _
  congr 1
  grind
theorem num_inj {l m : List UInt8} {a : Rat} (h1 : num? l = some a) (h2 : num? m = some a) : l = m := (num_iff.1 h1).1.symm.trans (num_iff.1 h2).1
theorem same_zero {l m : List UInt8} {p q : Rat} (h1 : num? l = some p) (h2 : num? m = some q) : decide (l = m) = decide (sign (p - q) = 0) := by
  refine decide_eq_decide.2 ⟨fun h => ?_, fun h => ?_⟩
  · subst h
    rw [h1] at h2
    cases h2
    exact sgn_zero.2 rfl
  · obtain rfl := sgn_zero.1 h
    exact num_inj h1 h2
def qc1 (S T : ByteArray) : Int := (qcm (bl S) (bl T)).1
def qc2 (S T : ByteArray) : Bool := (qcm (bl S) (bl T)).2

set_option maxRecDepth 100000 in
set_option maxHeartbeats 12800000 in
theorem order_walk (x y z : ByteArray) (hx : x.size ≤ 9223372036854775807) (hy : y.size ≤ 9223372036854775807) (hz : z.size ≤ 9223372036854775807) (w : World) (hw : Wf w) :
    Calls Tryz.prog 7 #[.string x, .string y, .string z] w fun e w' => e = .returned (.bool true) ∧ Below w.heap.size w w' := by
  have AD := fun S T (hs : S.size ≤ 9223372036854775807) (ht : T.size ≤ 9223372036854775807) w' (hb : Below w.heap.size w w') => (qAdd_any S T hs ht w' (hw.up hb)).mono fun e w2 h => (show e = .returned (.string (qb dAdd S T)) ∧ Below w'.heap.size w' w2 from h)
  have SB := fun S T (hs : S.size ≤ 9223372036854775807) (ht : T.size ≤ 9223372036854775807) w' (hb : Below w.heap.size w w') => (qSub_any S T hs ht w' (hw.up hb)).mono fun e w2 h => (show e = .returned (.string (qb dSub S T)) ∧ Below w'.heap.size w' w2 from h)
  have CM := fun S T (hs : S.size ≤ 9223372036854775807) (ht : T.size ≤ 9223372036854775807) w' (hb : Below w.heap.size w w') => (qCompare_any S T hs ht w' (hw.up hb)).mono fun e w2 h => (show e = .returned (.tuple #[.int .i64 (qc1 S T), .bool (qc2 S T)]) ∧ Below w'.heap.size w' w2 from h)
  have AW := fun w' (hb : Below w.heap.size w w') => awake_any w' (hw.up hb)
  have h0 : (⟨#[48]⟩ : ByteArray).size ≤ 9223372036854775807 := by decide
  have b := Lib.hid (Below.refl w.heap.size w)
  clear hw
  by_cases hn : num? (bl x) = none ∨ num? (bl y) = none ∨ num? (bl z) = none
  · obtain ⟨s1, hs1⟩ : ∃ s, qc2 x y = s := ⟨_, rfl⟩
    obtain ⟨s2, hs2⟩ : ∃ s, qc2 y z = s := ⟨_, rfl⟩
    obtain ⟨s3, hs3⟩ : ∃ s, qc2 x z = s := ⟨_, rfl⟩
    have hs : s1 = false ∨ s2 = false := by
      rw [← hs1, ← hs2]
      unfold qc2
      rcases hn with h | h | h
      · exact .inl (by rw [qcm_left h])
      · exact .inl (by rw [qcm_right h])
      · exact .inr (by rw [qcm_right h])
    clear hn
    cases s1
    · go_enter Tryz.func7, Tryz.ntmps7
      go_wp2_with (first
        | (go_at_call 35; ((with_reducible refine (CM _ _ (by first | assumption | exact qb_size _ _ _) (by first | assumption | exact qb_size _ _ _) _ b.out).mono ?_); rintro e wn ⟨rfl, hb⟩; replace b := Lib.hid (btrans b.out hb); clear hb))
        | (go_at_call 20; ((with_reducible refine (AW _ b.out).mono ?_); rintro e wn ⟨rfl, hb⟩; replace b := Lib.hid (btrans b.out hb); clear hb)))
      go_ret
      exact ⟨rfl, b.out⟩
    · obtain rfl : s2 = false := by simpa using hs
      go_enter Tryz.func7, Tryz.ntmps7
      go_wp2_with (first
        | (go_at_call 35; ((with_reducible refine (CM _ _ (by first | assumption | exact qb_size _ _ _) (by first | assumption | exact qb_size _ _ _) _ b.out).mono ?_); rintro e wn ⟨rfl, hb⟩; replace b := Lib.hid (btrans b.out hb); clear hb))
        | (go_at_call 20; ((with_reducible refine (AW _ b.out).mono ?_); rintro e wn ⟨rfl, hb⟩; replace b := Lib.hid (btrans b.out hb); clear hb)))
      go_ret
      exact ⟨rfl, b.out⟩
  · simp only [not_or, Option.ne_none_iff_exists'] at hn
    obtain ⟨⟨p, hp⟩, ⟨q, hq⟩, ⟨r, hr⟩⟩ := hn
    have K1 : qc1 x y = sign (p - q) := by unfold qc1; rw [qcm_some hp hq]
    have K2 : qc2 x y = true := by unfold qc2; rw [qcm_some hp hq]
    have K3 : qc1 y z = sign (q - r) := by unfold qc1; rw [qcm_some hq hr]
    have K4 : qc2 y z = true := by unfold qc2; rw [qcm_some hq hr]
    have K5 : qc1 x z = sign (p - r) := by unfold qc1; rw [qcm_some hp hr]
    have K6 : qc2 x z = true := by unfold qc2; rw [qcm_some hp hr]
    have K7 : qc1 y x = -sign (p - q) := by unfold qc1; rw [qcm_some hq hp]; exact sgn_back p q
    have K8 : (x.toList == y.toList) = decide (sign (p - q) = 0) := by rw [toList_eq]; exact same_zero hp hq
    have T1 := @sgn_trans p q r
    have T2 := @sgn_trans' p q r
    obtain ⟨s, hs⟩ : ∃ s, qc2 (qb dSub x y) ⟨#[48]⟩ = s := ⟨_, rfl⟩
    obtain ⟨t, ht⟩ : ∃ s, qc2 (qb dAdd x z) (qb dAdd y z) = s := ⟨_, rfl⟩
    have D1 : s = true → qc1 (qb dSub x y) ⟨#[48]⟩ = sign (p - q) := fun h => sub_agrees hp hq (by rw [← h, ← hs]; rfl)
    have D2 : t = true → qc1 (qb dAdd x z) (qb dAdd y z) = sign (p - q) := fun h => add_agrees hp hq hr (by rw [← h, ← ht]; rfl)
    have va := sgn_val (p - q)
    have vb := sgn_val (q - r)
    have vc := sgn_val (p - r)
    clear hp hq hr
    generalize sign (p - q) = a at *
    generalize sign (q - r) = b1 at *
    generalize sign (p - r) = c at *
    rcases va with rfl | rfl | rfl <;> rcases vb with rfl | rfl | rfl <;> rcases vc with rfl | rfl | rfl
    all_goals first
      | (exfalso; revert T1; decide)
      | (exfalso; revert T2; decide)
      | skip
    all_goals (cases s <;> cases t)
    all_goals
      clear T1 T2
      try replace D1 := D1 rfl
      try replace D2 := D2 rfl
      go_enter Tryz.func7, Tryz.ntmps7
      go_wp2_with (first
        | (go_at_call 35; ((with_reducible refine (CM _ _ (by first | assumption | exact qb_size _ _ _) (by first | assumption | exact qb_size _ _ _) _ b.out).mono ?_); rintro e wn ⟨rfl, hb⟩; replace b := Lib.hid (btrans b.out hb); clear hb))
        | (go_at_call 30; ((with_reducible refine (AD _ _ (by first | assumption | exact qb_size _ _ _) (by first | assumption | exact qb_size _ _ _) _ b.out).mono ?_); rintro e wn ⟨rfl, hb⟩; replace b := Lib.hid (btrans b.out hb); clear hb))
        | (go_at_call 32; ((with_reducible refine (SB _ _ (by first | assumption | exact qb_size _ _ _) (by first | assumption | exact qb_size _ _ _) _ b.out).mono ?_); rintro e wn ⟨rfl, hb⟩; replace b := Lib.hid (btrans b.out hb); clear hb))
        | (go_at_call 20; ((with_reducible refine (AW _ b.out).mono ?_); rintro e wn ⟨rfl, hb⟩; replace b := Lib.hid (btrans b.out hb); clear hb)))
      go_ret
      exact ⟨rfl, b.out⟩
end Go.Proofs.YtinoipjblkidfaaGreatDoor
