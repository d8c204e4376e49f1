/- The walk of CalendarTexts. -/
import Derived.Test.YtnjjkcnokkhlkaaGreatDoorTxF
namespace Go.Proofs.YtnjjkcnokkhlkaaGreatDoor
open Go.RowKit Go.Sort Go.Joins Go.Proofs.YtnjjkcnokkhlkaaGreatDoor.Str

theorem bytes_eta (s : ByteArray) : (⟨s.data.toList.toArray⟩ : ByteArray) = s := by obtain ⟨⟨l⟩⟩ := s; rfl

/-- Parse of the program, as the law's walk wants it. -/
theorem Parse_at (c : Int) (s : ByteArray) (hs : s.size ≤ 4000000000) (w : World) (mx : Int) (hmx : w.cell? ⟨0, 0, none⟩ = some (.int .i64 mx)) (hw : 0 < w.heap.size) (W : World) (hb : Below w.heap.size w W) :
    Calls Tryz.prog 6 #[.int .i64 c, .string s] W fun e w' => e = .returned (.tuple #[dt (Tx.pY c s.data.toList) (Tx.pM c s.data.toList) (Tx.pD c s.data.toList), .int .i64 (Tx.pE c s.data.toList)]) ∧ Below W.heap.size W w' :=
  Parse_any c s hs W mx ((hb.cell (p := ⟨0, 0, none⟩) hw).trans hmx) (Nat.lt_of_lt_of_le hw hb.size)
theorem Format_at (c y m d : Int) (w : World) (ht : ∀ w', Below w.heap.size w w' → Tab w') (W : World) (hb : Below w.heap.size w W) :
    Calls Tryz.prog 4 #[.int .i64 c, dt y m d] W fun e w' => e = .returned (.tuple #[.string ⟨(Tx.fS c y m d).toArray⟩, .int .i64 (dck c y m d)]) ∧ Below W.heap.size W w' :=
  Format_any c y m d W fun w' h => ht w' (btrans hb h)
theorem rParse_at (c : Int) (s : ByteArray) (w : World) :
    Calls Tryz.prog 7 #[.int .i64 c, .string s] w fun e w' => e = .returned (.tuple #[dt (Tx.pY c s.data.toList) (Tx.pM c s.data.toList) (Tx.pD c s.data.toList), .int .i64 (Tx.pE c s.data.toList)]) ∧ Below w.heap.size w w' := rParse_any c s w

set_option maxRecDepth 100000 in
set_option maxHeartbeats 6400000 in
theorem texts_walk (c y m d : Int) (s : ByteArray) (hs : s.size ≤ 4000000000) (w : World) (ht : ∀ w', Below w.heap.size w w' → Tab w') (mx : Int) (hmx : w.cell? ⟨0, 0, none⟩ = some (.int .i64 mx)) (hw : 0 < w.heap.size) :
    Calls Tryz.prog 3 #[.int .i64 c, dt y m d, .string s] w fun e w' => e = .returned (.bool true) ∧ Below w.heap.size w w' := by
  have FM := fun W hb => Format_at c y m d w ht W hb
  have RF := fun W => rFormat_any c y m d W
  have PA := fun W hb => Parse_at c s hs w mx hmx hw W hb
  have RP := fun W => rParse_at c s W
  by_cases hE : dck c y m d = 0
  · have hfs : Tx.fS c y m d = Tx.fmt y m d := by unfold Tx.fS; rw [if_pos hE]
    obtain ⟨p0, p1, p2, p3⟩ := Tx.parse_fmt hE
    have hl : (Tx.fmt y m d).length ≤ 11 := by unfold Tx.fmt; simp only [List.length_append, pad_length]; split <;> simp
    have PT := fun W hb => Parse_at c ⟨(Tx.fmt y m d).toArray⟩ (by rw [size_of_list]; omega) w mx hmx hw W hb
    simp only at PT
    rw [p0, p1, p2, p3] at PT
    rw [hfs, hE] at FM RF
    clear hfs p0 p1 p2 p3 hl hE
    generalize (⟨(Tx.fmt y m d).toArray⟩ : ByteArray) = T at *
    by_cases hG : Tx.pE c s.data.toList = 0
    · obtain ⟨f1, f2⟩ := Tx.fmt_parse hG
      have FX := fun W hb => Format_at c (Tx.pY c s.data.toList) (Tx.pM c s.data.toList) (Tx.pD c s.data.toList) w ht W hb
      have hfx : Tx.fS c (Tx.pY c s.data.toList) (Tx.pM c s.data.toList) (Tx.pD c s.data.toList) = s.data.toList := by unfold Tx.fS; rw [if_pos f1]; exact f2
      rw [hfx, f1, bytes_eta] at FX
      rw [hG] at PA RP
      clear hfx f1 f2 hG
      generalize Tx.pY c s.data.toList = x1 at *
      generalize Tx.pM c s.data.toList = x2 at *
      generalize Tx.pD c s.data.toList = x3 at *
      go_enter Tryz.func3, Tryz.ntmps3
      go_wp2_with (first | (go_at_call 4; (with_reducible refine (FM _ (by (repeat (first | exact Below.refl _ _ | assumption | refine below_drewN ?_ _ | refine Below.drew ?_ | refine btrans ?_ (by assumption) | refine below_alloc ?_ _ | refine Below.setCell ?_ (by simp <;> omega) _ | refine Below.alloc ?_ (by simp <;> omega) _ | refine Below.setCell ?_ (by simp) _ | refine Below.alloc ?_ (by simp) _)))).mono ?_); rintro e w1 ⟨rfl, hb1⟩; obtain ⟨hc1, hf1⟩ := bcell hb1; have hy1 := lt_of_below_alloc hb1; have hB1 : Below w.heap.size w w1 := by (repeat (first | exact Below.refl _ _ | assumption | refine below_drewN ?_ _ | refine Below.drew ?_ | refine btrans ?_ (by assumption) | refine below_alloc ?_ _ | refine Below.setCell ?_ (by simp <;> omega) _ | refine Below.alloc ?_ (by simp <;> omega) _ | refine Below.setCell ?_ (by simp) _ | refine Below.alloc ?_ (by simp) _))) | (go_at_call 5; (with_reducible refine (RF _).mono ?_); rintro e w2 ⟨rfl, hb2⟩; obtain ⟨hc2, hf2⟩ := bcell hb2; have hy2 := Nat.lt_of_lt_of_le hy1 hb2.size; have hB2 : Below w.heap.size w w2 := btrans hB1 hb2) | (go_at_call 6; (with_reducible refine (PA _ hB2).mono ?_); rintro e w3 ⟨rfl, hb3⟩; obtain ⟨hc3, hf3⟩ := bcell hb3; have hy3 := Nat.lt_of_lt_of_le hy2 hb3.size; have hB3 : Below w.heap.size w w3 := btrans hB2 hb3) | (go_at_call 7; (with_reducible refine (RP _).mono ?_); rintro e w4 ⟨rfl, hb4⟩; obtain ⟨hc4, hf4⟩ := bcell hb4; have hz4 := lt_of_below_alloc hb4; have hy4 := Nat.lt_trans hy3 hz4; have hB4 : Below w.heap.size w w4 := btrans (below_alloc hB3 _) hb4) | (go_at_call 8; refine (sane_any _).mono ?_; rintro e w5 ⟨rfl, hb5⟩; obtain ⟨hc5, hf5⟩ := bcell hb5; have hu5 := lt_of_below_alloc hb5; have hz5 := Nat.lt_trans hz4 hu5; have hy5 := Nat.lt_trans hy4 hu5; have hB5 : Below w.heap.size w w5 := btrans (below_alloc hB4 _) hb5) | (go_at_call 6; (with_reducible refine (PT _ hB5).mono ?_); rintro e w6 ⟨rfl, hb6⟩; obtain ⟨hc6, hf6⟩ := bcell hb6; have hu6 := Nat.lt_of_lt_of_le hu5 hb6.size; have hz6 := Nat.lt_of_lt_of_le hz5 hb6.size; have hy6 := Nat.lt_of_lt_of_le hy5 hb6.size; have hB6 : Below w.heap.size w w6 := btrans hB5 hb6) | (go_at_call 4; (with_reducible refine (FX _ (by (repeat (first | exact Below.refl _ _ | assumption | refine below_drewN ?_ _ | refine Below.drew ?_ | refine btrans ?_ (by assumption) | refine below_alloc ?_ _ | refine Below.setCell ?_ (by simp <;> omega) _ | refine Below.alloc ?_ (by simp <;> omega) _ | refine Below.setCell ?_ (by simp) _ | refine Below.alloc ?_ (by simp) _)))).mono ?_); rintro e w7 ⟨rfl, hb7⟩))
      go_ret
      exact ⟨rfl, by (repeat (first | exact Below.refl _ _ | assumption | refine below_drewN ?_ _ | refine Below.drew ?_ | refine btrans ?_ (by assumption) | refine below_alloc ?_ _ | refine Below.setCell ?_ (by simp <;> omega) _ | refine Below.alloc ?_ (by simp <;> omega) _ | refine Below.setCell ?_ (by simp) _ | refine Below.alloc ?_ (by simp) _))⟩
    · generalize Tx.pE c s.data.toList = g at *
      have hg1 : (g == 0) = false := by simpa using hG
      clear hG
      generalize Tx.pY c s.data.toList = x1 at *
      generalize Tx.pM c s.data.toList = x2 at *
      generalize Tx.pD c s.data.toList = x3 at *
      go_enter Tryz.func3, Tryz.ntmps3
      go_wp2_with (first | (go_at_call 4; (with_reducible refine (FM _ (by (repeat (first | exact Below.refl _ _ | assumption | refine below_drewN ?_ _ | refine Below.drew ?_ | refine btrans ?_ (by assumption) | refine below_alloc ?_ _ | refine Below.setCell ?_ (by simp <;> omega) _ | refine Below.alloc ?_ (by simp <;> omega) _ | refine Below.setCell ?_ (by simp) _ | refine Below.alloc ?_ (by simp) _)))).mono ?_); rintro e w1 ⟨rfl, hb1⟩; obtain ⟨hc1, hf1⟩ := bcell hb1; have hy1 := lt_of_below_alloc hb1; have hB1 : Below w.heap.size w w1 := by (repeat (first | exact Below.refl _ _ | assumption | refine below_drewN ?_ _ | refine Below.drew ?_ | refine btrans ?_ (by assumption) | refine below_alloc ?_ _ | refine Below.setCell ?_ (by simp <;> omega) _ | refine Below.alloc ?_ (by simp <;> omega) _ | refine Below.setCell ?_ (by simp) _ | refine Below.alloc ?_ (by simp) _))) | (go_at_call 5; (with_reducible refine (RF _).mono ?_); rintro e w2 ⟨rfl, hb2⟩; obtain ⟨hc2, hf2⟩ := bcell hb2; have hy2 := Nat.lt_of_lt_of_le hy1 hb2.size; have hB2 : Below w.heap.size w w2 := btrans hB1 hb2) | (go_at_call 6; (with_reducible refine (PA _ hB2).mono ?_); rintro e w3 ⟨rfl, hb3⟩; obtain ⟨hc3, hf3⟩ := bcell hb3; have hy3 := Nat.lt_of_lt_of_le hy2 hb3.size; have hB3 : Below w.heap.size w w3 := btrans hB2 hb3) | (go_at_call 7; (with_reducible refine (RP _).mono ?_); rintro e w4 ⟨rfl, hb4⟩; obtain ⟨hc4, hf4⟩ := bcell hb4; have hz4 := lt_of_below_alloc hb4; have hy4 := Nat.lt_trans hy3 hz4; have hB4 : Below w.heap.size w w4 := btrans (below_alloc hB3 _) hb4) | (go_at_call 8; refine (sane_any _).mono ?_; rintro e w5 ⟨rfl, hb5⟩; obtain ⟨hc5, hf5⟩ := bcell hb5; have hu5 := lt_of_below_alloc hb5; have hz5 := Nat.lt_trans hz4 hu5; have hy5 := Nat.lt_trans hy4 hu5; have hB5 : Below w.heap.size w w5 := btrans (below_alloc hB4 _) hb5) | (go_at_call 6; (with_reducible refine (PT _ hB5).mono ?_); rintro e w6 ⟨rfl, hb6⟩; obtain ⟨hc6, hf6⟩ := bcell hb6; have hu6 := Nat.lt_of_lt_of_le hu5 hb6.size; have hz6 := Nat.lt_of_lt_of_le hz5 hb6.size; have hy6 := Nat.lt_of_lt_of_le hy5 hb6.size; have hB6 : Below w.heap.size w w6 := btrans hB5 hb6))
      go_ret
      exact ⟨rfl, by (repeat (first | exact Below.refl _ _ | assumption | refine below_drewN ?_ _ | refine Below.drew ?_ | refine btrans ?_ (by assumption) | refine below_alloc ?_ _ | refine Below.setCell ?_ (by simp <;> omega) _ | refine Below.alloc ?_ (by simp <;> omega) _ | refine Below.setCell ?_ (by simp) _ | refine Below.alloc ?_ (by simp) _))⟩
  · generalize dck c y m d = ee at *
    have he1 : (ee == 0) = false := by simpa using hE
    clear hE
    generalize (⟨(Tx.fS c y m d).toArray⟩ : ByteArray) = T at *
    by_cases hG : Tx.pE c s.data.toList = 0
    · obtain ⟨f1, f2⟩ := Tx.fmt_parse hG
      have FX := fun W hb => Format_at c (Tx.pY c s.data.toList) (Tx.pM c s.data.toList) (Tx.pD c s.data.toList) w ht W hb
      have hfx : Tx.fS c (Tx.pY c s.data.toList) (Tx.pM c s.data.toList) (Tx.pD c s.data.toList) = s.data.toList := by unfold Tx.fS; rw [if_pos f1]; exact f2
      rw [hfx, f1, bytes_eta] at FX
      rw [hG] at PA RP
      clear hfx f1 f2 hG
      generalize Tx.pY c s.data.toList = x1 at *
      generalize Tx.pM c s.data.toList = x2 at *
      generalize Tx.pD c s.data.toList = x3 at *
      go_enter Tryz.func3, Tryz.ntmps3
      go_wp2_with (first | (go_at_call 4; (with_reducible refine (FM _ (by (repeat (first | exact Below.refl _ _ | assumption | refine below_drewN ?_ _ | refine Below.drew ?_ | refine btrans ?_ (by assumption) | refine below_alloc ?_ _ | refine Below.setCell ?_ (by simp <;> omega) _ | refine Below.alloc ?_ (by simp <;> omega) _ | refine Below.setCell ?_ (by simp) _ | refine Below.alloc ?_ (by simp) _)))).mono ?_); rintro e w1 ⟨rfl, hb1⟩; obtain ⟨hc1, hf1⟩ := bcell hb1; have hy1 := lt_of_below_alloc hb1; have hB1 : Below w.heap.size w w1 := by (repeat (first | exact Below.refl _ _ | assumption | refine below_drewN ?_ _ | refine Below.drew ?_ | refine btrans ?_ (by assumption) | refine below_alloc ?_ _ | refine Below.setCell ?_ (by simp <;> omega) _ | refine Below.alloc ?_ (by simp <;> omega) _ | refine Below.setCell ?_ (by simp) _ | refine Below.alloc ?_ (by simp) _))) | (go_at_call 5; (with_reducible refine (RF _).mono ?_); rintro e w2 ⟨rfl, hb2⟩; obtain ⟨hc2, hf2⟩ := bcell hb2; have hy2 := Nat.lt_of_lt_of_le hy1 hb2.size; have hB2 : Below w.heap.size w w2 := btrans hB1 hb2) | (go_at_call 6; (with_reducible refine (PA _ hB2).mono ?_); rintro e w3 ⟨rfl, hb3⟩; obtain ⟨hc3, hf3⟩ := bcell hb3; have hy3 := Nat.lt_of_lt_of_le hy2 hb3.size; have hB3 : Below w.heap.size w w3 := btrans hB2 hb3) | (go_at_call 7; (with_reducible refine (RP _).mono ?_); rintro e w4 ⟨rfl, hb4⟩; obtain ⟨hc4, hf4⟩ := bcell hb4; have hz4 := lt_of_below_alloc hb4; have hy4 := Nat.lt_trans hy3 hz4; have hB4 : Below w.heap.size w w4 := btrans (below_alloc hB3 _) hb4) | (go_at_call 8; refine (sane_any _).mono ?_; rintro e w5 ⟨rfl, hb5⟩; obtain ⟨hc5, hf5⟩ := bcell hb5; have hu5 := lt_of_below_alloc hb5; have hz5 := Nat.lt_trans hz4 hu5; have hy5 := Nat.lt_trans hy4 hu5; have hB5 : Below w.heap.size w w5 := btrans (below_alloc hB4 _) hb5) | (go_at_call 4; (with_reducible refine (FX _ (by (repeat (first | exact Below.refl _ _ | assumption | refine below_drewN ?_ _ | refine Below.drew ?_ | refine btrans ?_ (by assumption) | refine below_alloc ?_ _ | refine Below.setCell ?_ (by simp <;> omega) _ | refine Below.alloc ?_ (by simp <;> omega) _ | refine Below.setCell ?_ (by simp) _ | refine Below.alloc ?_ (by simp) _)))).mono ?_); rintro e w7 ⟨rfl, hb7⟩))
      go_ret
      exact ⟨rfl, by (repeat (first | exact Below.refl _ _ | assumption | refine below_drewN ?_ _ | refine Below.drew ?_ | refine btrans ?_ (by assumption) | refine below_alloc ?_ _ | refine Below.setCell ?_ (by simp <;> omega) _ | refine Below.alloc ?_ (by simp <;> omega) _ | refine Below.setCell ?_ (by simp) _ | refine Below.alloc ?_ (by simp) _))⟩
    · generalize Tx.pE c s.data.toList = g at *
      have hg1 : (g == 0) = false := by simpa using hG
      clear hG
      generalize Tx.pY c s.data.toList = x1 at *
      generalize Tx.pM c s.data.toList = x2 at *
      generalize Tx.pD c s.data.toList = x3 at *
      go_enter Tryz.func3, Tryz.ntmps3
      go_wp2_with (first | (go_at_call 4; (with_reducible refine (FM _ (by (repeat (first | exact Below.refl _ _ | assumption | refine below_drewN ?_ _ | refine Below.drew ?_ | refine btrans ?_ (by assumption) | refine below_alloc ?_ _ | refine Below.setCell ?_ (by simp <;> omega) _ | refine Below.alloc ?_ (by simp <;> omega) _ | refine Below.setCell ?_ (by simp) _ | refine Below.alloc ?_ (by simp) _)))).mono ?_); rintro e w1 ⟨rfl, hb1⟩; obtain ⟨hc1, hf1⟩ := bcell hb1; have hy1 := lt_of_below_alloc hb1; have hB1 : Below w.heap.size w w1 := by (repeat (first | exact Below.refl _ _ | assumption | refine below_drewN ?_ _ | refine Below.drew ?_ | refine btrans ?_ (by assumption) | refine below_alloc ?_ _ | refine Below.setCell ?_ (by simp <;> omega) _ | refine Below.alloc ?_ (by simp <;> omega) _ | refine Below.setCell ?_ (by simp) _ | refine Below.alloc ?_ (by simp) _))) | (go_at_call 5; (with_reducible refine (RF _).mono ?_); rintro e w2 ⟨rfl, hb2⟩; obtain ⟨hc2, hf2⟩ := bcell hb2; have hy2 := Nat.lt_of_lt_of_le hy1 hb2.size; have hB2 : Below w.heap.size w w2 := btrans hB1 hb2) | (go_at_call 6; (with_reducible refine (PA _ hB2).mono ?_); rintro e w3 ⟨rfl, hb3⟩; obtain ⟨hc3, hf3⟩ := bcell hb3; have hy3 := Nat.lt_of_lt_of_le hy2 hb3.size; have hB3 : Below w.heap.size w w3 := btrans hB2 hb3) | (go_at_call 7; (with_reducible refine (RP _).mono ?_); rintro e w4 ⟨rfl, hb4⟩; obtain ⟨hc4, hf4⟩ := bcell hb4; have hz4 := lt_of_below_alloc hb4; have hy4 := Nat.lt_trans hy3 hz4; have hB4 : Below w.heap.size w w4 := btrans (below_alloc hB3 _) hb4) | (go_at_call 8; refine (sane_any _).mono ?_; rintro e w5 ⟨rfl, hb5⟩; obtain ⟨hc5, hf5⟩ := bcell hb5; have hu5 := lt_of_below_alloc hb5; have hz5 := Nat.lt_trans hz4 hu5; have hy5 := Nat.lt_trans hy4 hu5; have hB5 : Below w.heap.size w w5 := btrans (below_alloc hB4 _) hb5))
      go_ret
      exact ⟨rfl, by (repeat (first | exact Below.refl _ _ | assumption | refine below_drewN ?_ _ | refine Below.drew ?_ | refine btrans ?_ (by assumption) | refine below_alloc ?_ _ | refine Below.setCell ?_ (by simp <;> omega) _ | refine Below.alloc ?_ (by simp <;> omega) _ | refine Below.setCell ?_ (by simp) _ | refine Below.alloc ?_ (by simp) _))⟩

end Go.Proofs.YtnjjkcnokkhlkaaGreatDoor
